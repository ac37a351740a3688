/- Layer 23: the chapter's example (printed by leaw_gen.py). -/
import Derived.Deep.RegionLaw
import Derived.Test.YtmclhhlekblkeaaLeNil
namespace Go.Proofs.Ytmclhhlekblkeaa
open Go.RowKit Go.Shelf
set_option linter.unusedVariables false
set_option linter.unusedSimpArgs false
set_option maxRecDepth 100000
set_option maxHeartbeats 2000000
def RowT (w : World) (b : Nat) (cs : Array Value) (t : TypeId) : Prop := w.heap[b]? = some (.cells cs t (0, 0))
theorem RowT.gr {w w' : World} {b : Nat} {cs : Array Value} {t : TypeId} (h : RowT w b cs t) (hg : Gr w w') : RowT w' b cs t := (hg.block (lt_row h)).trans h
theorem RowT.cell {w : World} {b : Nat} {cs : Array Value} {t : TypeId} (h : RowT w b cs t) (i : Nat) (v : Value) (hv : cs[i]? = some v) : w.cell? ⟨b, i, none⟩ = some v := le_cell h i v hv
theorem rows2 (w : World) {ca cb : Array Value} {t t2 : TypeId} (a b : Obj) (ha : a = .cells ca t (0, 0) := by rfl) (hb : b = .cells cb t2 (0, 0) := by rfl) : RowT ((w.alloc a).alloc b) w.heap.size ca t ∧ RowT ((w.alloc a).alloc b) (w.heap.size + 1) cb t2 := by
  subst ha hb
  have h1 := heap_alloc_last (w.alloc (.cells ca t (0, 0))) (.cells cb t2 (0, 0))
  rw [alloc_size] at h1
  exact ⟨(((Gr.refl (w.alloc (.cells ca t (0, 0)))).alloc _).block (k := w.heap.size) (by rw [alloc_size]; omega)).trans (heap_alloc_last w _), h1⟩
theorem row1 (w : World) {ca : Array Value} {t : TypeId} (a : Obj) (ha : a = .cells ca t (0, 0) := by rfl) : RowT (w.alloc a) w.heap.size ca t := by
  subst ha
  exact heap_alloc_last w _
/-- a table that holds these entries -/
def TbAt (w : World) (v : Value) (zs : List En) : Prop := ∃ A cap, v = .agg #[.func (.func 8) #[] #[], .slice A zs.length cap] ∧ SliceAt w A 3 enCell zs ∧ zs.length ≤ cap ∧ cap ≤ maxLen
theorem TbAt.gr {w w' : World} {v : Value} {zs : List En} (h : TbAt w v zs) (hg : Gr w w') : TbAt w' v zs := by
  obtain ⟨A, cap, hv, hs, h1, h2⟩ := h
  exact ⟨A, cap, hv, hs.gr hg, h1, h2⟩
theorem le_new (w : World) : Calls Try.prog 40 #[.func (.func 8) #[] #[]] w fun r w' => r = .returned (.agg #[.func (.func 8) #[] #[], .slice none 0 0]) ∧ Gr w w' := by
  have hr := heap_alloc_last w (.cells #[.func (.func 8) #[] #[], .slice none 0 0] 51)
  have HR := Lib.hid hr
  clear hr
  go_enter Try.func40, Try.ntmps40
  go_wp2
  refine bodyPost_ret (results_cell_row rfl _ _ w.heap.size _ #[.func (.func 8) #[] #[], .slice none 0 0] (0, 0) (.struct _) rfl HR.out Try.underlying51 rfl (by kernel_rfl)) rfl ⟨rfl, (Gr.refl w).alloc _⟩
theorem le_keys (w : World) : Calls Try.prog 16 #[] w fun r w' => r = .returned (.agg #[.func (.func 8) #[] #[], .slice none 0 0]) ∧ Gr w w' := by
  have hr := heap_alloc_last w (.cells #[.nilFunc, .slice none 0 0] 51)
  have HR := Lib.hid hr
  clear hr
  go_enter Try.func16, Try.ntmps16
  go_wp2_with (go_at_call 40; refine (le_new _).mono ?_; rintro r v1 ⟨rfl, hg⟩; have s2 := (hg.block (lt_row HR.out)).trans HR.out; have HS := Lib.hid (And.intro s2 hg); have e0 := le_cell s2 0 _ rfl; have e1 := le_cell s2 1 _ rfl; have i20 := frozen_of_row _ _ 0 _ _ s2; have i21 := frozen_of_row _ _ 1 _ _ s2; clear s2 hg)
  refine bodyPost_ret (results_cell_row rfl _ _ w.heap.size _ #[.func (.func 8) #[] #[], .slice none 0 0] (0, 0) (.struct _) rfl (pair_same (.func (.func 8) #[] #[]) (.slice none 0 0) HS.out.1) Try.underlying51 rfl (by kernel_rfl)) rfl ⟨rfl, pair_gr _ _ (((Gr.refl w).alloc _).trans HS.out.2) (Nat.le_refl _)⟩
theorem le_len (A : Option Addr) (n c : Nat) (w : World) : Calls Try.prog 29 #[.agg #[.func (.func 8) #[] #[], .slice A n c]] w fun r w' => r = .returned (.int .i64 (n : Nat)) ∧ Gr w w' := by
  have HG := Lib.hid ((Gr.refl w).alloc (.cells #[.func (.func 8) #[] #[], .slice A n c] 51))
  go_enter Try.func29, Try.ntmps29
  go_wp2
  go_ret
  exact ⟨rfl, HG.out⟩
theorem le_dueT (v : Value) (zs : List En) (hl : zs.length ≤ 4000) (now : Nat) (w : World) (h : TbAt w v zs) : Calls Try.prog 19 #[v, .int .u64 (now : Nat)] w fun r w' => ∃ A1 c1 A2 c2, r = .returned (.tuple #[.slice A1 (dueL zs now).length c1, .agg #[.func (.func 8) #[] #[], .slice A2 (zs.length - (dueL zs now).length) c2]]) ∧ SliceAt w' A1 2 kyCell ((dueL zs now).map enKey) ∧ TbAt w' (.agg #[.func (.func 8) #[] #[], .slice A2 (zs.length - (dueL zs now).length) c2]) (zs.drop (dueL zs now).length) ∧ Gr w w' := by
  obtain ⟨A, cap, rfl, hs, h1, h2⟩ := h
  refine (le_due A cap zs h1 h2 hl now w hs).mono ?_
  rintro r w' ⟨A1, c1, A2, c2, rfl, ho1, ho2, hg⟩
  have hle := ho2.cap_le
  exact ⟨A1, c1, A2, c2, rfl, ho1.slice (fun _ => rfl), ⟨A2, c2, by rw [List.length_drop], ho2.slice (fun _ => rfl), hle.1, hle.2⟩, hg⟩
theorem law23_awake (w : World) : Calls Try.prog 6 #[] w fun r w' => r = .returned (.bool true) ∧ Gr w w' := by
  have cK := fun w1 => Lib.hid (le_keys w1)
  have cL : ∀ w1, Hid (Calls Try.prog 23 #[.agg #[.func (.func 8) #[] #[], .slice none 0 0], .agg #[.string ⟨#[120]⟩, .int .u64 0], .int .u64 5] w1 fun r w' => ∃ A cap, r = .returned (.agg #[.func (.func 8) #[] #[], .slice A 1 cap]) ∧ TbAt w' (.agg #[.func (.func 8) #[] #[], .slice A 1 cap]) [((⟨#[120]⟩, 0, 5) : En)] ∧ Gr w1 w') := fun w1 => (lend_nil ⟨#[120]⟩ 0 5 w1).mono (by
    rintro r w' ⟨A, cap, rfl, ho, hg⟩
    exact ⟨A, cap, rfl, ⟨A, cap, rfl, ho.slice (fun _ => rfl), ho.cap_le.1, ho.cap_le.2⟩, hg⟩)
  have cD4 : ∀ v w1, TbAt w1 v [((⟨#[120]⟩, 0, 5) : En)] → Hid (Calls Try.prog 19 #[v, .int .u64 4] w1 fun r w' => ∃ A1 c1 A2 c2, r = .returned (.tuple #[.slice A1 0 c1, .agg #[.func (.func 8) #[] #[], .slice A2 1 c2]]) ∧ Gr w1 w') := fun v w1 h => (le_dueT v _ (by decide) 4 w1 h).mono (by
    rintro r w' ⟨A1, c1, A2, c2, rfl, _, _, hg⟩
    exact ⟨A1, c1, A2, c2, rfl, hg⟩)
  have cD5 : ∀ v w1, TbAt w1 v [((⟨#[120]⟩, 0, 5) : En)] → Hid (Calls Try.prog 19 #[v, .int .u64 5] w1 fun r w' => ∃ A1 c1 A2 c2, r = .returned (.tuple #[.slice A1 1 c1, .agg #[.func (.func 8) #[] #[], .slice A2 0 c2]]) ∧ Gr w1 w') := fun v w1 h => (le_dueT v _ (by decide) 5 w1 h).mono (by
    rintro r w' ⟨A1, c1, A2, c2, rfl, _, _, hg⟩
    exact ⟨A1, c1, A2, c2, rfl, hg⟩)
  go_enter Try.func6, Try.ntmps6
  have cE0 := fun A n c w1 => Lib.hid (le_len A n c w1)
  have cE1 := cE0
  go_wp2_with (first
    | (go_at_call 16; refine (cK _).out.mono ?_; clear cK; rintro r v1 ⟨rfl, hg⟩; have HPv1 : Hid ((Gr w v1) ∧ (True)) := ⟨hg, trivial⟩; clear hg)
    | (go_at_call 23; refine (cL _).out.mono ?_; clear cL; rintro r v2 ⟨tA, tc, rfl, q1, hg⟩; have HPv2 : Hid ((Gr w v2) ∧ (TbAt v2 (.agg #[.func (.func 8) #[] #[], .slice tA 1 tc]) [((⟨#[120]⟩, 0, 5) : En)]) ∧ (True)) := ⟨HPv1.out.1.trans hg, q1, trivial⟩; clear hg q1)
    | (go_at_call 19; refine (cD4 _ _ ((HPv2.out.2.1).gr ((Gr.refl v2).alloc (.cells #[.func (.func 8) #[] #[], .slice tA 1 tc] 51)))).out.mono ?_; clear cD4; rintro r v3 ⟨aA, ac, zA, zc, rfl, hg⟩; have HPv3 : Hid ((Gr w v3) ∧ (TbAt v3 (.agg #[.func (.func 8) #[] #[], .slice tA 1 tc]) [((⟨#[120]⟩, 0, 5) : En)]) ∧ (RowT v3 v2.heap.size #[.func (.func 8) #[] #[], .slice tA 1 tc] 51) ∧ (True)) := ⟨HPv2.out.1.trans (((Gr.refl v2).alloc (.cells #[.func (.func 8) #[] #[], .slice tA 1 tc] 51)).trans hg), (HPv2.out.2.1).gr (((Gr.refl v2).alloc (.cells #[.func (.func 8) #[] #[], .slice tA 1 tc] 51)).trans hg), RowT.gr (row1 v2 (.cells #[.func (.func 8) #[] #[], .slice tA 1 tc] 51)) hg, trivial⟩; have rc3_1_0 := RowT.cell (HPv3.out.2.2.1) 0 _ rfl; have rs3_1_0 := RowT.cell (RowT.gr (HPv3.out.2.2.1) ((Gr.refl v3).alloc (.cells #[.func (.func 8) #[] #[], .slice zA 1 zc] 51))) 0 _ rfl; have rc3_1_1 := RowT.cell (HPv3.out.2.2.1) 1 _ rfl; have rs3_1_1 := RowT.cell (RowT.gr (HPv3.out.2.2.1) ((Gr.refl v3).alloc (.cells #[.func (.func 8) #[] #[], .slice zA 1 zc] 51))) 1 _ rfl; clear hg)
    | (go_at_call 19; refine (cD5 _ _ ((HPv3.out.2.1).gr ((Gr.refl v3).alloc (.cells #[.func (.func 8) #[] #[], .slice zA 1 zc] 51)))).out.mono ?_; clear cD5; rintro r v4 ⟨bA, bc, uA, uc, rfl, hg⟩; have HPv4 : Hid ((Gr w v4) ∧ (TbAt v4 (.agg #[.func (.func 8) #[] #[], .slice tA 1 tc]) [((⟨#[120]⟩, 0, 5) : En)]) ∧ (RowT v4 v2.heap.size #[.func (.func 8) #[] #[], .slice tA 1 tc] 51) ∧ (RowT v4 v3.heap.size #[.func (.func 8) #[] #[], .slice zA 1 zc] 51) ∧ (True)) := ⟨HPv3.out.1.trans (((Gr.refl v3).alloc (.cells #[.func (.func 8) #[] #[], .slice zA 1 zc] 51)).trans hg), (HPv3.out.2.1).gr (((Gr.refl v3).alloc (.cells #[.func (.func 8) #[] #[], .slice zA 1 zc] 51)).trans hg), (HPv3.out.2.2.1).gr (((Gr.refl v3).alloc (.cells #[.func (.func 8) #[] #[], .slice zA 1 zc] 51)).trans hg), RowT.gr (row1 v3 (.cells #[.func (.func 8) #[] #[], .slice zA 1 zc] 51)) hg, trivial⟩; have rc4_1_0 := RowT.cell (HPv4.out.2.2.1) 0 _ rfl; have rs4_1_0 := RowT.cell (RowT.gr (HPv4.out.2.2.1) ((Gr.refl v4).alloc (.cells #[.func (.func 8) #[] #[], .slice uA 0 uc] 51))) 0 _ rfl; have rc4_1_1 := RowT.cell (HPv4.out.2.2.1) 1 _ rfl; have rs4_1_1 := RowT.cell (RowT.gr (HPv4.out.2.2.1) ((Gr.refl v4).alloc (.cells #[.func (.func 8) #[] #[], .slice uA 0 uc] 51))) 1 _ rfl; have rc4_2_0 := RowT.cell (HPv4.out.2.2.2.1) 0 _ rfl; have rs4_2_0 := RowT.cell (RowT.gr (HPv4.out.2.2.2.1) ((Gr.refl v4).alloc (.cells #[.func (.func 8) #[] #[], .slice uA 0 uc] 51))) 0 _ rfl; have rc4_2_1 := RowT.cell (HPv4.out.2.2.2.1) 1 _ rfl; have rs4_2_1 := RowT.cell (RowT.gr (HPv4.out.2.2.2.1) ((Gr.refl v4).alloc (.cells #[.func (.func 8) #[] #[], .slice uA 0 uc] 51))) 1 _ rfl; clear hg)
    | (go_at_call 29; refine (cE0 _ _ _ _).out.mono ?_; clear cE0; rintro r v5 ⟨rfl, hg⟩; have HPv5 : Hid ((Gr w v5) ∧ (TbAt v5 (.agg #[.func (.func 8) #[] #[], .slice tA 1 tc]) [((⟨#[120]⟩, 0, 5) : En)]) ∧ (RowT v5 v2.heap.size #[.func (.func 8) #[] #[], .slice tA 1 tc] 51) ∧ (RowT v5 v3.heap.size #[.func (.func 8) #[] #[], .slice zA 1 zc] 51) ∧ (RowT v5 v4.heap.size #[.func (.func 8) #[] #[], .slice uA 0 uc] 51) ∧ (True)) := ⟨HPv4.out.1.trans (((Gr.refl v4).alloc (.cells #[.func (.func 8) #[] #[], .slice uA 0 uc] 51)).trans hg), (HPv4.out.2.1).gr (((Gr.refl v4).alloc (.cells #[.func (.func 8) #[] #[], .slice uA 0 uc] 51)).trans hg), (HPv4.out.2.2.1).gr (((Gr.refl v4).alloc (.cells #[.func (.func 8) #[] #[], .slice uA 0 uc] 51)).trans hg), (HPv4.out.2.2.2.1).gr (((Gr.refl v4).alloc (.cells #[.func (.func 8) #[] #[], .slice uA 0 uc] 51)).trans hg), RowT.gr (row1 v4 (.cells #[.func (.func 8) #[] #[], .slice uA 0 uc] 51)) hg, trivial⟩; have rc5_1_0 := RowT.cell (HPv5.out.2.2.1) 0 _ rfl; have rc5_1_1 := RowT.cell (HPv5.out.2.2.1) 1 _ rfl; have rc5_2_0 := RowT.cell (HPv5.out.2.2.2.1) 0 _ rfl; have rc5_2_1 := RowT.cell (HPv5.out.2.2.2.1) 1 _ rfl; have rc5_3_0 := RowT.cell (HPv5.out.2.2.2.2.1) 0 _ rfl; have rc5_3_1 := RowT.cell (HPv5.out.2.2.2.2.1) 1 _ rfl; clear hg)
    | (go_at_call 29; refine (cE1 _ _ _ _).out.mono ?_; clear cE1; rintro r v6 ⟨rfl, hg⟩; have HPv6 : Hid ((Gr w v6) ∧ (TbAt v6 (.agg #[.func (.func 8) #[] #[], .slice tA 1 tc]) [((⟨#[120]⟩, 0, 5) : En)]) ∧ (RowT v6 v2.heap.size #[.func (.func 8) #[] #[], .slice tA 1 tc] 51) ∧ (RowT v6 v3.heap.size #[.func (.func 8) #[] #[], .slice zA 1 zc] 51) ∧ (RowT v6 v4.heap.size #[.func (.func 8) #[] #[], .slice uA 0 uc] 51) ∧ (True)) := ⟨HPv5.out.1.trans hg, (HPv5.out.2.1).gr hg, (HPv5.out.2.2.1).gr hg, (HPv5.out.2.2.2.1).gr hg, (HPv5.out.2.2.2.2.1).gr hg, trivial⟩; have rc6_1_0 := RowT.cell (HPv6.out.2.2.1) 0 _ rfl; have rc6_1_1 := RowT.cell (HPv6.out.2.2.1) 1 _ rfl; have rc6_2_0 := RowT.cell (HPv6.out.2.2.2.1) 0 _ rfl; have rc6_2_1 := RowT.cell (HPv6.out.2.2.2.1) 1 _ rfl; have rc6_3_0 := RowT.cell (HPv6.out.2.2.2.2.1) 0 _ rfl; have rc6_3_1 := RowT.cell (HPv6.out.2.2.2.2.1) 1 _ rfl; clear hg))
  go_ret
  exact ⟨rfl, HPv6.out.1⟩
end Go.Proofs.Ytmclhhlekblkeaa
