/- The law NodeDoes, walked (printed by nddoes_gen.py). -/
import Derived.Test.YtmpmfgkabjedpaaMgDo03
import Derived.Test.YtmpmfgkabjedpaaMgDo09
import Derived.Test.YtmpmfgkabjedpaaMgDo40
import Derived.Test.YtmpmfgkabjedpaaMgDo41
import Derived.Test.YtmpmfgkabjedpaaMgDo42
import Derived.Test.YtmpmfgkabjedpaaMgDo43
import Derived.Lib.SmallJoins
namespace Go.Proofs.Ytmpmfgkabjedpaa
open Go.RowKit
set_option linter.unusedVariables false
set_option linter.unusedSimpArgs false
set_option maxRecDepth 100000
set_option maxHeartbeats 4000000
theorem walk_NodeDoes_ (leaf : Bool) (A1 : Option Addr) (c1 : Nat) (lA : List Ce) (h1 : lA.length ≤ c1) (hm1 : c1 ≤ maxLen) (u1 : ∀ x ∈ lA, ceU x) (a0 a1 : ByteArray) (a2 a3 : Nat) (key : ByteArray) (hkey : key.size ≤ maxLen) (at_ : Int) (hat : I64 at_) (w : World) (hs1 : SliceAt w A1 4 ceCell lA) :
    Calls Try.prog 5 #[.bool leaf, .slice A1 lA.length c1, .agg #[.string a0, .string a1, .int .u32 (a2 : Nat), .int .u32 (a3 : Nat)], .string key, .int .i64 at_] w fun e w' => e = .returned (.bool true) ∧ Gr w w' := by
  have cA := fun w1 => Lib.hid (law10_awake w1)
  have cFl := fun w1 (hg : Gr w w1) => Lib.hid (law_few A1 c1 lA h1 hm1 w1 (hs1.gr hg))
  have cFc := fun b w1 h => Lib.hid (few_one a0 a1 a2 a3 b w1 h)
  have cRi := fun w1 (hg : Gr w w1) => Lib.hid (law_rising A1 c1 lA h1 hm1 w1 (hs1.gr hg))
  have HX := Lib.hid hs1
  by_cases hfl : fewB lA = true
  case neg =>
    have hf2 : fewB lA = false := by simpa using hfl
    rw [hf2] at cFl
    clear hfl hf2
    go_enter Try.func5, Try.ntmps5
    go_wp2_with (first
      | (go_at_call 7; refine (cA _).out.mono ?_; clear cA; rintro r v1 ⟨rfl, hg⟩; have HPv1 : Hid ((Gr w v1) ∧ (RowT v1 w.heap.size #[.string a0, .string a1, .int .u32 (a2 : Nat), .int .u32 (a3 : Nat)] 59) ∧ (True)) := ⟨(((Gr.refl w).alloc (.cells #[.string a0, .string a1, .int .u32 (a2 : Nat), .int .u32 (a3 : Nat)] 59)).trans hg), RowT.gr (row1 w (.cells #[.string a0, .string a1, .int .u32 (a2 : Nat), .int .u32 (a3 : Nat)] 59)) hg, trivial⟩; have rc1_0_0 := RowT.cell (HPv1.out.2.1) 0 _ rfl; have rc1_0_1 := RowT.cell (HPv1.out.2.1) 1 _ rfl; have rc1_0_2 := RowT.cell (HPv1.out.2.1) 2 _ rfl; have rc1_0_3 := RowT.cell (HPv1.out.2.1) 3 _ rfl; clear hg)
      | (go_at_call 8; refine (cFl _ (HPv1.out.1)).out.mono ?_; clear cFl; rintro r v2 ⟨rfl, hg⟩; have HPv2 : Hid ((Gr w v2) ∧ (RowT v2 w.heap.size #[.string a0, .string a1, .int .u32 (a2 : Nat), .int .u32 (a3 : Nat)] 59) ∧ (True)) := ⟨HPv1.out.1.trans hg, (HPv1.out.2.1).gr hg, trivial⟩; have rc2_0_0 := RowT.cell (HPv2.out.2.1) 0 _ rfl; have rs2_0_0 := RowT.cell (RowT.gr (HPv2.out.2.1) ((Gr.refl v2).alloc (.cells #[.string a0, .string a1, .int .u32 (a2 : Nat), .int .u32 (a3 : Nat)] 59))) 0 _ rfl; have rc2_0_1 := RowT.cell (HPv2.out.2.1) 1 _ rfl; have rs2_0_1 := RowT.cell (RowT.gr (HPv2.out.2.1) ((Gr.refl v2).alloc (.cells #[.string a0, .string a1, .int .u32 (a2 : Nat), .int .u32 (a3 : Nat)] 59))) 1 _ rfl; have rc2_0_2 := RowT.cell (HPv2.out.2.1) 2 _ rfl; have rs2_0_2 := RowT.cell (RowT.gr (HPv2.out.2.1) ((Gr.refl v2).alloc (.cells #[.string a0, .string a1, .int .u32 (a2 : Nat), .int .u32 (a3 : Nat)] 59))) 2 _ rfl; have rc2_0_3 := RowT.cell (HPv2.out.2.1) 3 _ rfl; have rs2_0_3 := RowT.cell (RowT.gr (HPv2.out.2.1) ((Gr.refl v2).alloc (.cells #[.string a0, .string a1, .int .u32 (a2 : Nat), .int .u32 (a3 : Nat)] 59))) 3 _ rfl; clear hg))
    go_ret
    exact ⟨rfl, HPv2.out.1⟩
  rw [hfl] at cFl
  by_cases hfc : fewB [(a0, a1, a2, a3)] = true
  case neg =>
    have hf2 : fewB [(a0, a1, a2, a3)] = false := by simpa using hfc
    rw [hf2] at cFc
    clear hfl hf2 hfc
    go_enter Try.func5, Try.ntmps5
    go_wp2_with (first
      | (go_at_call 7; refine (cA _).out.mono ?_; clear cA; rintro r v1 ⟨rfl, hg⟩; have HPv1 : Hid ((Gr w v1) ∧ (RowT v1 w.heap.size #[.string a0, .string a1, .int .u32 (a2 : Nat), .int .u32 (a3 : Nat)] 59) ∧ (True)) := ⟨(((Gr.refl w).alloc (.cells #[.string a0, .string a1, .int .u32 (a2 : Nat), .int .u32 (a3 : Nat)] 59)).trans hg), RowT.gr (row1 w (.cells #[.string a0, .string a1, .int .u32 (a2 : Nat), .int .u32 (a3 : Nat)] 59)) hg, trivial⟩; have rc1_0_0 := RowT.cell (HPv1.out.2.1) 0 _ rfl; have rc1_0_1 := RowT.cell (HPv1.out.2.1) 1 _ rfl; have rc1_0_2 := RowT.cell (HPv1.out.2.1) 2 _ rfl; have rc1_0_3 := RowT.cell (HPv1.out.2.1) 3 _ rfl; clear hg)
      | (go_at_call 8; refine (cFl _ (HPv1.out.1)).out.mono ?_; clear cFl; rintro r v2 ⟨rfl, hg⟩; have HPv2 : Hid ((Gr w v2) ∧ (RowT v2 w.heap.size #[.string a0, .string a1, .int .u32 (a2 : Nat), .int .u32 (a3 : Nat)] 59) ∧ (True)) := ⟨HPv1.out.1.trans hg, (HPv1.out.2.1).gr hg, trivial⟩; have rc2_0_0 := RowT.cell (HPv2.out.2.1) 0 _ rfl; have rs2_0_0 := RowT.cell (RowT.gr (HPv2.out.2.1) ((Gr.refl v2).alloc (.cells #[.string a0, .string a1, .int .u32 (a2 : Nat), .int .u32 (a3 : Nat)] 59))) 0 _ rfl; have rc2_0_1 := RowT.cell (HPv2.out.2.1) 1 _ rfl; have rs2_0_1 := RowT.cell (RowT.gr (HPv2.out.2.1) ((Gr.refl v2).alloc (.cells #[.string a0, .string a1, .int .u32 (a2 : Nat), .int .u32 (a3 : Nat)] 59))) 1 _ rfl; have rc2_0_2 := RowT.cell (HPv2.out.2.1) 2 _ rfl; have rs2_0_2 := RowT.cell (RowT.gr (HPv2.out.2.1) ((Gr.refl v2).alloc (.cells #[.string a0, .string a1, .int .u32 (a2 : Nat), .int .u32 (a3 : Nat)] 59))) 2 _ rfl; have rc2_0_3 := RowT.cell (HPv2.out.2.1) 3 _ rfl; have rs2_0_3 := RowT.cell (RowT.gr (HPv2.out.2.1) ((Gr.refl v2).alloc (.cells #[.string a0, .string a1, .int .u32 (a2 : Nat), .int .u32 (a3 : Nat)] 59))) 3 _ rfl; clear hg)
      | (go_at_call 8; refine (cFc _ _ (heap_alloc_last _ _)).out.mono ?_; clear cFc; rintro r v3 ⟨rfl, hg⟩; have HPv3 : Hid ((Gr w v3) ∧ (RowT v3 w.heap.size #[.string a0, .string a1, .int .u32 (a2 : Nat), .int .u32 (a3 : Nat)] 59) ∧ (RowT v3 v2.heap.size #[.string a0, .string a1, .int .u32 (a2 : Nat), .int .u32 (a3 : Nat)] 59) ∧ (True)) := ⟨HPv2.out.1.trans (((Gr.refl v2).alloc (.cells #[.string a0, .string a1, .int .u32 (a2 : Nat), .int .u32 (a3 : Nat)] 59)).trans hg), (HPv2.out.2.1).gr (((Gr.refl v2).alloc (.cells #[.string a0, .string a1, .int .u32 (a2 : Nat), .int .u32 (a3 : Nat)] 59)).trans hg), RowT.gr (row1 v2 (.cells #[.string a0, .string a1, .int .u32 (a2 : Nat), .int .u32 (a3 : Nat)] 59)) hg, trivial⟩; have rc3_0_0 := RowT.cell (HPv3.out.2.1) 0 _ rfl; have rc3_0_1 := RowT.cell (HPv3.out.2.1) 1 _ rfl; have rc3_0_2 := RowT.cell (HPv3.out.2.1) 2 _ rfl; have rc3_0_3 := RowT.cell (HPv3.out.2.1) 3 _ rfl; have rc3_1_0 := RowT.cell (HPv3.out.2.2.1) 0 _ rfl; have rc3_1_1 := RowT.cell (HPv3.out.2.2.1) 1 _ rfl; have rc3_1_2 := RowT.cell (HPv3.out.2.2.1) 2 _ rfl; have rc3_1_3 := RowT.cell (HPv3.out.2.2.1) 3 _ rfl; clear hg))
    go_ret
    exact ⟨rfl, HPv3.out.1⟩
  rw [hfc] at cFc
  by_cases hri : risesB lA = true
  case neg =>
    have hf2 : risesB lA = false := by simpa using hri
    rw [hf2] at cRi
    clear hfl hf2 hfc hri
    go_enter Try.func5, Try.ntmps5
    go_wp2_with (first
      | (go_at_call 7; refine (cA _).out.mono ?_; clear cA; rintro r v1 ⟨rfl, hg⟩; have HPv1 : Hid ((Gr w v1) ∧ (RowT v1 w.heap.size #[.string a0, .string a1, .int .u32 (a2 : Nat), .int .u32 (a3 : Nat)] 59) ∧ (True)) := ⟨(((Gr.refl w).alloc (.cells #[.string a0, .string a1, .int .u32 (a2 : Nat), .int .u32 (a3 : Nat)] 59)).trans hg), RowT.gr (row1 w (.cells #[.string a0, .string a1, .int .u32 (a2 : Nat), .int .u32 (a3 : Nat)] 59)) hg, trivial⟩; have rc1_0_0 := RowT.cell (HPv1.out.2.1) 0 _ rfl; have rc1_0_1 := RowT.cell (HPv1.out.2.1) 1 _ rfl; have rc1_0_2 := RowT.cell (HPv1.out.2.1) 2 _ rfl; have rc1_0_3 := RowT.cell (HPv1.out.2.1) 3 _ rfl; clear hg)
      | (go_at_call 8; refine (cFl _ (HPv1.out.1)).out.mono ?_; clear cFl; rintro r v2 ⟨rfl, hg⟩; have HPv2 : Hid ((Gr w v2) ∧ (RowT v2 w.heap.size #[.string a0, .string a1, .int .u32 (a2 : Nat), .int .u32 (a3 : Nat)] 59) ∧ (True)) := ⟨HPv1.out.1.trans hg, (HPv1.out.2.1).gr hg, trivial⟩; have rc2_0_0 := RowT.cell (HPv2.out.2.1) 0 _ rfl; have rs2_0_0 := RowT.cell (RowT.gr (HPv2.out.2.1) ((Gr.refl v2).alloc (.cells #[.string a0, .string a1, .int .u32 (a2 : Nat), .int .u32 (a3 : Nat)] 59))) 0 _ rfl; have rc2_0_1 := RowT.cell (HPv2.out.2.1) 1 _ rfl; have rs2_0_1 := RowT.cell (RowT.gr (HPv2.out.2.1) ((Gr.refl v2).alloc (.cells #[.string a0, .string a1, .int .u32 (a2 : Nat), .int .u32 (a3 : Nat)] 59))) 1 _ rfl; have rc2_0_2 := RowT.cell (HPv2.out.2.1) 2 _ rfl; have rs2_0_2 := RowT.cell (RowT.gr (HPv2.out.2.1) ((Gr.refl v2).alloc (.cells #[.string a0, .string a1, .int .u32 (a2 : Nat), .int .u32 (a3 : Nat)] 59))) 2 _ rfl; have rc2_0_3 := RowT.cell (HPv2.out.2.1) 3 _ rfl; have rs2_0_3 := RowT.cell (RowT.gr (HPv2.out.2.1) ((Gr.refl v2).alloc (.cells #[.string a0, .string a1, .int .u32 (a2 : Nat), .int .u32 (a3 : Nat)] 59))) 3 _ rfl; clear hg)
      | (go_at_call 8; refine (cFc _ _ (heap_alloc_last _ _)).out.mono ?_; clear cFc; rintro r v3 ⟨rfl, hg⟩; have HPv3 : Hid ((Gr w v3) ∧ (RowT v3 w.heap.size #[.string a0, .string a1, .int .u32 (a2 : Nat), .int .u32 (a3 : Nat)] 59) ∧ (RowT v3 v2.heap.size #[.string a0, .string a1, .int .u32 (a2 : Nat), .int .u32 (a3 : Nat)] 59) ∧ (True)) := ⟨HPv2.out.1.trans (((Gr.refl v2).alloc (.cells #[.string a0, .string a1, .int .u32 (a2 : Nat), .int .u32 (a3 : Nat)] 59)).trans hg), (HPv2.out.2.1).gr (((Gr.refl v2).alloc (.cells #[.string a0, .string a1, .int .u32 (a2 : Nat), .int .u32 (a3 : Nat)] 59)).trans hg), RowT.gr (row1 v2 (.cells #[.string a0, .string a1, .int .u32 (a2 : Nat), .int .u32 (a3 : Nat)] 59)) hg, trivial⟩; have rc3_0_0 := RowT.cell (HPv3.out.2.1) 0 _ rfl; have rc3_0_1 := RowT.cell (HPv3.out.2.1) 1 _ rfl; have rc3_0_2 := RowT.cell (HPv3.out.2.1) 2 _ rfl; have rc3_0_3 := RowT.cell (HPv3.out.2.1) 3 _ rfl; have rc3_1_0 := RowT.cell (HPv3.out.2.2.1) 0 _ rfl; have rc3_1_1 := RowT.cell (HPv3.out.2.2.1) 1 _ rfl; have rc3_1_2 := RowT.cell (HPv3.out.2.2.1) 2 _ rfl; have rc3_1_3 := RowT.cell (HPv3.out.2.2.1) 3 _ rfl; clear hg)
      | (go_at_call 25; refine (cRi _ (HPv3.out.1)).out.mono ?_; clear cRi; rintro r v4 ⟨rfl, hg⟩; have HPv4 : Hid ((Gr w v4) ∧ (RowT v4 w.heap.size #[.string a0, .string a1, .int .u32 (a2 : Nat), .int .u32 (a3 : Nat)] 59) ∧ (RowT v4 v2.heap.size #[.string a0, .string a1, .int .u32 (a2 : Nat), .int .u32 (a3 : Nat)] 59) ∧ (True)) := ⟨HPv3.out.1.trans hg, (HPv3.out.2.1).gr hg, (HPv3.out.2.2.1).gr hg, trivial⟩; have rc4_0_0 := RowT.cell (HPv4.out.2.1) 0 _ rfl; have rc4_0_1 := RowT.cell (HPv4.out.2.1) 1 _ rfl; have rc4_0_2 := RowT.cell (HPv4.out.2.1) 2 _ rfl; have rc4_0_3 := RowT.cell (HPv4.out.2.1) 3 _ rfl; have rc4_1_0 := RowT.cell (HPv4.out.2.2.1) 0 _ rfl; have rc4_1_1 := RowT.cell (HPv4.out.2.2.1) 1 _ rfl; have rc4_1_2 := RowT.cell (HPv4.out.2.2.1) 2 _ rfl; have rc4_1_3 := RowT.cell (HPv4.out.2.2.1) 3 _ rfl; clear hg))
    go_ret
    exact ⟨rfl, HPv4.out.1⟩
  rw [hri] at cRi
  by_cases hs3 : 300 < key.size
  · have hs3' : (300 : Int) < (key.size : Int) := by omega
    clear hs3
    go_enter Try.func5, Try.ntmps5
    go_wp2_with (first
      | (go_at_call 7; refine (cA _).out.mono ?_; clear cA; rintro r v1 ⟨rfl, hg⟩; have HPv1 : Hid ((Gr w v1) ∧ (RowT v1 w.heap.size #[.string a0, .string a1, .int .u32 (a2 : Nat), .int .u32 (a3 : Nat)] 59) ∧ (True)) := ⟨(((Gr.refl w).alloc (.cells #[.string a0, .string a1, .int .u32 (a2 : Nat), .int .u32 (a3 : Nat)] 59)).trans hg), RowT.gr (row1 w (.cells #[.string a0, .string a1, .int .u32 (a2 : Nat), .int .u32 (a3 : Nat)] 59)) hg, trivial⟩; have rc1_0_0 := RowT.cell (HPv1.out.2.1) 0 _ rfl; have rc1_0_1 := RowT.cell (HPv1.out.2.1) 1 _ rfl; have rc1_0_2 := RowT.cell (HPv1.out.2.1) 2 _ rfl; have rc1_0_3 := RowT.cell (HPv1.out.2.1) 3 _ rfl; clear hg)
      | (go_at_call 8; refine (cFl _ (HPv1.out.1)).out.mono ?_; clear cFl; rintro r v2 ⟨rfl, hg⟩; have HPv2 : Hid ((Gr w v2) ∧ (RowT v2 w.heap.size #[.string a0, .string a1, .int .u32 (a2 : Nat), .int .u32 (a3 : Nat)] 59) ∧ (True)) := ⟨HPv1.out.1.trans hg, (HPv1.out.2.1).gr hg, trivial⟩; have rc2_0_0 := RowT.cell (HPv2.out.2.1) 0 _ rfl; have rs2_0_0 := RowT.cell (RowT.gr (HPv2.out.2.1) ((Gr.refl v2).alloc (.cells #[.string a0, .string a1, .int .u32 (a2 : Nat), .int .u32 (a3 : Nat)] 59))) 0 _ rfl; have rc2_0_1 := RowT.cell (HPv2.out.2.1) 1 _ rfl; have rs2_0_1 := RowT.cell (RowT.gr (HPv2.out.2.1) ((Gr.refl v2).alloc (.cells #[.string a0, .string a1, .int .u32 (a2 : Nat), .int .u32 (a3 : Nat)] 59))) 1 _ rfl; have rc2_0_2 := RowT.cell (HPv2.out.2.1) 2 _ rfl; have rs2_0_2 := RowT.cell (RowT.gr (HPv2.out.2.1) ((Gr.refl v2).alloc (.cells #[.string a0, .string a1, .int .u32 (a2 : Nat), .int .u32 (a3 : Nat)] 59))) 2 _ rfl; have rc2_0_3 := RowT.cell (HPv2.out.2.1) 3 _ rfl; have rs2_0_3 := RowT.cell (RowT.gr (HPv2.out.2.1) ((Gr.refl v2).alloc (.cells #[.string a0, .string a1, .int .u32 (a2 : Nat), .int .u32 (a3 : Nat)] 59))) 3 _ rfl; clear hg)
      | (go_at_call 8; refine (cFc _ _ (heap_alloc_last _ _)).out.mono ?_; clear cFc; rintro r v3 ⟨rfl, hg⟩; have HPv3 : Hid ((Gr w v3) ∧ (RowT v3 w.heap.size #[.string a0, .string a1, .int .u32 (a2 : Nat), .int .u32 (a3 : Nat)] 59) ∧ (RowT v3 v2.heap.size #[.string a0, .string a1, .int .u32 (a2 : Nat), .int .u32 (a3 : Nat)] 59) ∧ (True)) := ⟨HPv2.out.1.trans (((Gr.refl v2).alloc (.cells #[.string a0, .string a1, .int .u32 (a2 : Nat), .int .u32 (a3 : Nat)] 59)).trans hg), (HPv2.out.2.1).gr (((Gr.refl v2).alloc (.cells #[.string a0, .string a1, .int .u32 (a2 : Nat), .int .u32 (a3 : Nat)] 59)).trans hg), RowT.gr (row1 v2 (.cells #[.string a0, .string a1, .int .u32 (a2 : Nat), .int .u32 (a3 : Nat)] 59)) hg, trivial⟩; have rc3_0_0 := RowT.cell (HPv3.out.2.1) 0 _ rfl; have rc3_0_1 := RowT.cell (HPv3.out.2.1) 1 _ rfl; have rc3_0_2 := RowT.cell (HPv3.out.2.1) 2 _ rfl; have rc3_0_3 := RowT.cell (HPv3.out.2.1) 3 _ rfl; have rc3_1_0 := RowT.cell (HPv3.out.2.2.1) 0 _ rfl; have rc3_1_1 := RowT.cell (HPv3.out.2.2.1) 1 _ rfl; have rc3_1_2 := RowT.cell (HPv3.out.2.2.1) 2 _ rfl; have rc3_1_3 := RowT.cell (HPv3.out.2.2.1) 3 _ rfl; clear hg)
      | (go_at_call 25; refine (cRi _ (HPv3.out.1)).out.mono ?_; clear cRi; rintro r v4 ⟨rfl, hg⟩; have HPv4 : Hid ((Gr w v4) ∧ (RowT v4 w.heap.size #[.string a0, .string a1, .int .u32 (a2 : Nat), .int .u32 (a3 : Nat)] 59) ∧ (RowT v4 v2.heap.size #[.string a0, .string a1, .int .u32 (a2 : Nat), .int .u32 (a3 : Nat)] 59) ∧ (True)) := ⟨HPv3.out.1.trans hg, (HPv3.out.2.1).gr hg, (HPv3.out.2.2.1).gr hg, trivial⟩; have rc4_0_0 := RowT.cell (HPv4.out.2.1) 0 _ rfl; have rc4_0_1 := RowT.cell (HPv4.out.2.1) 1 _ rfl; have rc4_0_2 := RowT.cell (HPv4.out.2.1) 2 _ rfl; have rc4_0_3 := RowT.cell (HPv4.out.2.1) 3 _ rfl; have rc4_1_0 := RowT.cell (HPv4.out.2.2.1) 0 _ rfl; have rc4_1_1 := RowT.cell (HPv4.out.2.2.1) 1 _ rfl; have rc4_1_2 := RowT.cell (HPv4.out.2.2.1) 2 _ rfl; have rc4_1_3 := RowT.cell (HPv4.out.2.2.1) 3 _ rfl; clear hg))
    go_ret
    exact ⟨rfl, HPv4.out.1⟩
  clear cA cFl cFc cRi HX
  cases leaf
  · by_cases hat0 : 0 ≤ at_
    · by_cases hatn : at_ < (lA.length : Int)
      · exact does_I A1 c1 lA h1 hm1 u1 a0 a1 a2 a3 key hkey at_ hat w hs1 hfl hfc hri hs3 hat0 hatn
      · exact does_P A1 c1 lA h1 hm1 u1 a0 a1 a2 a3 key hkey at_ hat w hs1 hfl hfc hri hs3 hat0 hatn
    · exact does_O A1 c1 lA h1 hm1 u1 a0 a1 a2 a3 key hkey at_ hat w hs1 hfl hfc hri hs3 hat0
  · exact does_L A1 c1 lA h1 hm1 u1 a0 a1 a2 a3 key hkey at_ hat w hs1 hfl hfc hri hs3
end Go.Proofs.Ytmpmfgkabjedpaa
namespace Go.Proofs.Ytmpmfgkabjedpaa
open Go.RowKit Go.ChangeShapes Go.WideShapes Go.ChangeAt
set_option linter.unusedVariables false
def strCell (s : ByteArray) : List Value := [.string s]
def u16Cell (n : Nat) : List Value := [.int .u16 (n : Nat)]
def u32Cell (n : Nat) : List Value := [.int .u32 (n : Nat)]
def i64Cell (n : Int) : List Value := [.int .i64 n]
section
variable {H : Type} {enc : TypeId × Value → H} {P : Program} {w : World} {base : Nat} {held : Bool}
theorem open_strs_list {r : Reach} {b0 : Nat} {t e : Nat} {v : Value} {d : DataW H} {p : List MemPlace} (ht : P.underlying t = some (.slice e)) (he : P.underlying e = some .string) (hn : P.cellsOf e = 1)
    (hv : Value.okWide P w r b0 t v) (h : DataW.Trod enc P w base (fun _ => true) held t v d p) :
    ∃ (A : Option Addr) (cap : Nat) (xs : List ByteArray), v = .slice A xs.length cap ∧ xs.length ≤ cap ∧ cap ≤ maxLen ∧ (∀ x ∈ xs, x.size ≤ maxLen) ∧ SliceAt w A 1 strCell xs :=
  open_slice_as strCell (fun x => x.size ≤ maxLen) ht hn (by omega) hv h fun fuel cs y hy => by
    obtain ⟨s, h1, _, h3⟩ := DataW.trod_string he hy
    exact ⟨s, h1, h3⟩
theorem open_u16s_list {r : Reach} {b0 : Nat} {t e : Nat} {v : Value} {d : DataW H} {p : List MemPlace} (ht : P.underlying t = some (.slice e)) (he : P.underlying e = some (.int .u16)) (hn : P.cellsOf e = 1)
    (hv : Value.okWide P w r b0 t v) (h : DataW.Trod enc P w base (fun _ => true) held t v d p) :
    ∃ (A : Option Addr) (cap : Nat) (xs : List Nat), v = .slice A xs.length cap ∧ xs.length ≤ cap ∧ cap ≤ maxLen ∧ (∀ x ∈ xs, x < 65536) ∧ SliceAt w A 1 u16Cell xs :=
  open_slice_as u16Cell (fun x => x < 65536) ht hn (by omega) hv h fun fuel cs y hy => by
    obtain ⟨a, h1, _, h3⟩ := DataW.trod_int he hy
    obtain ⟨n, rfl, hn⟩ : ∃ n : Nat, a = n ∧ n < 65536 := by
      have h3 : 0 ≤ a ∧ a ≤ 65535 := by simpa [Lit.wf, IntKind.min, IntKind.max, IntKind.signed, IntKind.bits] using h3
      exact ⟨a.toNat, by omega, by omega⟩
    exact ⟨n, h1, hn⟩
theorem open_u32s_list {r : Reach} {b0 : Nat} {t e : Nat} {v : Value} {d : DataW H} {p : List MemPlace} (ht : P.underlying t = some (.slice e)) (he : P.underlying e = some (.int .u32)) (hn : P.cellsOf e = 1)
    (hv : Value.okWide P w r b0 t v) (h : DataW.Trod enc P w base (fun _ => true) held t v d p) :
    ∃ (A : Option Addr) (cap : Nat) (xs : List Nat), v = .slice A xs.length cap ∧ xs.length ≤ cap ∧ cap ≤ maxLen ∧ (∀ x ∈ xs, x < 4294967296) ∧ SliceAt w A 1 u32Cell xs :=
  open_slice_as u32Cell (fun x => x < 4294967296) ht hn (by omega) hv h fun fuel cs y hy => by
    obtain ⟨a, h1, _, h3⟩ := DataW.trod_int he hy
    obtain ⟨n, rfl, hn⟩ : ∃ n : Nat, a = n ∧ n < 4294967296 := by
      have h3 : 0 ≤ a ∧ a ≤ 4294967295 := by simpa [Lit.wf, IntKind.min, IntKind.max, IntKind.signed, IntKind.bits] using h3
      exact ⟨a.toNat, by omega, by omega⟩
    exact ⟨n, h1, hn⟩
end
end Go.Proofs.Ytmpmfgkabjedpaa
namespace Go.Proofs.Ytmpmfgkabjedpaa
open Go.RowKit Go.ChangeShapes Go.WideShapes Go.ChangeAt Go.Deep
set_option linter.unusedVariables false
section
variable {H : Type} {enc : TypeId × Value → H} {P : Program} {w : World} {base : Nat} {held : Bool}
theorem list4 {α : Type} {cs : List α} (h : cs.length = 4) : ∃ c0 c1 c2 c3, cs = [c0, c1, c2, c3] := by
  match cs, h with
  | [c0, c1, c2, c3], _ => exact ⟨c0, c1, c2, c3, rfl⟩
theorem nat32 {a : Int} (h : (Lit.int .u32 a).wf = true) : ∃ n : Nat, a = n ∧ n < 4294967296 := by
  have : 0 ≤ a ∧ a ≤ 4294967295 := by simpa [Lit.wf, IntKind.min, IntKind.max, IntKind.signed, IntKind.bits] using h
  exact ⟨a.toNat, by omega, by omega⟩
theorem open_ces_list {r : Reach} {b0 : Nat} {t e : Nat} {f0 f1 f2 f3 : Field} {v : Value} {d : DataW H} {p : List MemPlace} (ht : P.underlying t = some (.slice e)) (he : P.underlying e = some (.struct #[f0, f1, f2, f3])) (hone : oneCellFields P #[f0, f1, f2, f3] = true) (hn : P.cellsOf e = 4)
    (h0 : P.underlying f0.type = some .string) (h1 : P.underlying f1.type = some .string) (h2 : P.underlying f2.type = some (.int .u32)) (h3 : P.underlying f3.type = some (.int .u32))
    (hv : Value.okWide P w r b0 t v) (h : DataW.Trod enc P w base (fun _ => true) held t v d p) :
    ∃ (A : Option Addr) (cap : Nat) (xs : List Ce), v = .slice A xs.length cap ∧ xs.length ≤ cap ∧ cap ≤ maxLen ∧ (∀ x ∈ xs, ceU x) ∧ SliceAt w A 4 ceCell xs :=
  open_slice_as ceCell ceU ht hn (by omega) hv h fun fuel cs y hy => by
    obtain ⟨xs, n, _, _, hl, hlen, hg⟩ := DataW.trod_struct he hy
    rw [hn] at hl
    obtain ⟨c0, c1, c2, c3, rfl⟩ := list4 hl
    obtain ⟨o0, k0⟩ := hone_of hone 0 f0 rfl
    obtain ⟨o1, k1⟩ := hone_of hone 1 f1 rfl
    obtain ⟨o2, k2⟩ := hone_of hone 2 f2 rfl
    obtain ⟨o3, k3⟩ := hone_of hone 3 f3 rfl
    match xs, hlen with
    | [y0, y1, y2, y3], _ =>
      have g0 : DataW.trod enc P w base (fun _ => true) held n f0.type [c0] = some y0 := by simpa [o0, k0] using hg 0 f0 rfl
      have g1 : DataW.trod enc P w base (fun _ => true) held n f1.type [c1] = some y1 := by simpa [o1, k1] using hg 1 f1 rfl
      have g2 : DataW.trod enc P w base (fun _ => true) held n f2.type [c2] = some y2 := by simpa [o2, k2] using hg 2 f2 rfl
      have g3 : DataW.trod enc P w base (fun _ => true) held n f3.type [c3] = some y3 := by simpa [o3, k3] using hg 3 f3 rfl
      obtain ⟨s0, e0, _, _⟩ := DataW.trod_string h0 g0
      obtain ⟨s1, e1, _, _⟩ := DataW.trod_string h1 g1
      obtain ⟨a2, e2, _, w2⟩ := DataW.trod_int h2 g2
      obtain ⟨a3, e3, _, w3⟩ := DataW.trod_int h3 g3
      simp only [List.cons.injEq, and_true] at e0 e1 e2 e3
      subst e0 e1 e2 e3
      obtain ⟨n2, rfl, b2⟩ := nat32 w2
      obtain ⟨n3, rfl, b3⟩ := nat32 w3
      exact ⟨(s0, s1, n2, n3), rfl, b2, b3⟩
end
end Go.Proofs.Ytmpmfgkabjedpaa
