/- Layer 10: the document's Split (printed by rfspl_gen.py). -/
import Derived.Test.YtmpmfgkabjedpaaNdM
import Derived.Deep.RegionHeldLaw
namespace Go.Proofs.Ytmpmfgkabjedpaa
open Go.RowKit
set_option linter.unusedVariables false
set_option linter.unusedSimpArgs false
set_option maxRecDepth 100000
set_option maxHeartbeats 4000000
theorem rc_bd (leaf : Bool) (xs : List Ce) (hl : xs.length ≤ 4000) (hx : ∀ x ∈ xs, ceOk x) : rcSum leaf xs ≤ 241208000 := by
  have h : rcSum leaf xs ≤ xs.length * 60302 := sumB_le (fun x => 2 + (rcB leaf x).size) 60302 xs (fun x hq => by
    have h2 := rcB_size leaf x (hx x hq)
    show 2 + (rcB leaf x).size ≤ 60302
    omega)
  omega
def rfB (leaf : Bool) (zs : List Ce) : List Ce := if leaf then zs else setC1 .empty zs
theorem rf_splitN (leaf : Bool) (v : Value) (zs : List Ce) (hl : zs.length ≤ 4000) (hx : ∀ x ∈ zs, ceOk x) (w : World) (h : RfAt w leaf v zs) :
    Calls Try.prog 12 #[v] w fun r w' => ∃ va vb, r = .returned (.tuple #[va, .string (hdK (fun x : Ce => x.1) (spB (rcSum leaf) zs)), vb]) ∧ RfAt w' leaf va (spA (rcSum leaf) zs) ∧ RfAt w' leaf vb (rfB leaf (spB (rcSum leaf) zs)) ∧ Gr w w' := by
  obtain ⟨A, cap, rfl, hs, hcap, hcm⟩ := h
  obtain ⟨ii, hii, hz0, hz1, hz2⟩ := info_parts sl_info_ce
  unfold maxLen at hcm
  by_cases h2 : zs.length < 2
  · have h2' : ((zs.length : Nat) : Int) < 2 := by omega
    have eA : spA (rcSum leaf) zs = zs := by unfold spA; rw [if_pos h2]
    have eB : spB (rcSum leaf) zs = [] := by unfold spB; rw [if_pos h2]
    have eC : rfB leaf [] = [] := by unfold rfB; split <;> rfl
    have HS := Lib.hid (And.intro hs (And.intro hcap hcm))
    rw [eA, eB, eC]
    clear eA eB eC
    clear hs hcap hcm h2
    go_enter Try.func12, Try.ntmps12
    go_wp2
    have h3 := heap_alloc3 w (.cells #[.bool leaf, .slice A zs.length cap] 32) (.cells #[.bool false, .slice none 0 0] 32) (.cells #[.bool false, .slice none 0 0] 32)
    generalize hgw : w.heap.size = g at *
    have HU : Hid (SqW w (((w.alloc (.cells #[.bool leaf, .slice A zs.length cap] 32)).alloc (.cells #[.bool false, .slice none 0 0] 32)).alloc (.cells #[.bool false, .slice none 0 0] 32)) g #[.bool leaf, .slice A zs.length cap] #[.bool false, .slice none 0 0] #[.bool false, .slice none 0 0]) := ⟨(((Gr.refl w).alloc _).alloc _).alloc _, h3.1, h3.2.1, h3.2.2, hgw⟩
    clear h3 hgw
    generalize (((w.alloc (.cells #[.bool leaf, .slice A zs.length cap] 32)).alloc (.cells #[.bool false, .slice none 0 0] 32)).alloc (.cells #[.bool false, .slice none 0 0] 32)) = U at *
    have HCA := Lib.hid (((Ch.refl (g + 1) U).setCell 0 (.bool leaf)).setCell 1 (.slice A zs.length cap))
    have HCB := Lib.hid (((Ch.refl (g + 1 + 1) U).setCell 0 (.bool leaf)).setCell 1 (.slice none 0 0))
    have HCAB := Lib.hid (((Ch.refl (g + 1 + 1) ((U.setCell ⟨g + 1, 0, none⟩ (.bool leaf)).setCell ⟨g + 1, 1, none⟩ (.slice A zs.length cap))).setCell 0 (.bool leaf)).setCell 1 (.slice none 0 0))
    have HCBA := Lib.hid (((Ch.refl (g + 1) ((U.setCell ⟨g + 1 + 1, 0, none⟩ (.bool leaf)).setCell ⟨g + 1 + 1, 1, none⟩ (.slice none 0 0))).setCell 0 (.bool leaf)).setCell 1 (.slice A zs.length cap))
    have m0 : U.cell? ⟨g, 0, none⟩ = some (.bool leaf) := row_cell HU.out.n 0 _ rfl
    have m0a : ((U.setCell ⟨g + 1, 0, none⟩ (.bool leaf)).setCell ⟨g + 1, 1, none⟩ (.slice A zs.length cap)).cell? ⟨g, 0, none⟩ = some (.bool leaf) := HCA.out.cell (by show g ≠ g + 1; omega) m0
    have m0ab : ((((U.setCell ⟨g + 1, 0, none⟩ (.bool leaf)).setCell ⟨g + 1, 1, none⟩ (.slice A zs.length cap)).setCell ⟨g + 1 + 1, 0, none⟩ (.bool leaf)).setCell ⟨g + 1 + 1, 1, none⟩ (.slice none 0 0)).cell? ⟨g, 0, none⟩ = some (.bool leaf) := HCAB.out.cell (by show g ≠ g + 1 + 1; omega) m0a
    have m0b : ((U.setCell ⟨g + 1 + 1, 0, none⟩ (.bool leaf)).setCell ⟨g + 1 + 1, 1, none⟩ (.slice none 0 0)).cell? ⟨g, 0, none⟩ = some (.bool leaf) := HCB.out.cell (by show g ≠ g + 1 + 1; omega) m0
    have m0ba : ((((U.setCell ⟨g + 1 + 1, 0, none⟩ (.bool leaf)).setCell ⟨g + 1 + 1, 1, none⟩ (.slice none 0 0)).setCell ⟨g + 1, 0, none⟩ (.bool leaf)).setCell ⟨g + 1, 1, none⟩ (.slice A zs.length cap)).cell? ⟨g, 0, none⟩ = some (.bool leaf) := HCBA.out.cell (by show g ≠ g + 1; omega) m0b
    have m1 : U.cell? ⟨g, 1, none⟩ = some (.slice A zs.length cap) := row_cell HU.out.n 1 _ rfl
    have m1a : ((U.setCell ⟨g + 1, 0, none⟩ (.bool leaf)).setCell ⟨g + 1, 1, none⟩ (.slice A zs.length cap)).cell? ⟨g, 1, none⟩ = some (.slice A zs.length cap) := HCA.out.cell (by show g ≠ g + 1; omega) m1
    have m1ab : ((((U.setCell ⟨g + 1, 0, none⟩ (.bool leaf)).setCell ⟨g + 1, 1, none⟩ (.slice A zs.length cap)).setCell ⟨g + 1 + 1, 0, none⟩ (.bool leaf)).setCell ⟨g + 1 + 1, 1, none⟩ (.slice none 0 0)).cell? ⟨g, 1, none⟩ = some (.slice A zs.length cap) := HCAB.out.cell (by show g ≠ g + 1 + 1; omega) m1a
    have m1b : ((U.setCell ⟨g + 1 + 1, 0, none⟩ (.bool leaf)).setCell ⟨g + 1 + 1, 1, none⟩ (.slice none 0 0)).cell? ⟨g, 1, none⟩ = some (.slice A zs.length cap) := HCB.out.cell (by show g ≠ g + 1 + 1; omega) m1
    have m1ba : ((((U.setCell ⟨g + 1 + 1, 0, none⟩ (.bool leaf)).setCell ⟨g + 1 + 1, 1, none⟩ (.slice none 0 0)).setCell ⟨g + 1, 0, none⟩ (.bool leaf)).setCell ⟨g + 1, 1, none⟩ (.slice A zs.length cap)).cell? ⟨g, 1, none⟩ = some (.slice A zs.length cap) := HCBA.out.cell (by show g ≠ g + 1; omega) m1b
    have p0 : U.cell? ⟨g + 1, 0, none⟩ = some (.bool false) := row_cell HU.out.r1 0 _ rfl
    have fp0 := frozen_of_row _ _ 0 _ _ HU.out.r1
    have p0b : ((U.setCell ⟨g + 1 + 1, 0, none⟩ (.bool leaf)).setCell ⟨g + 1 + 1, 1, none⟩ (.slice none 0 0)).cell? ⟨g + 1, 0, none⟩ = some (.bool false) := HCB.out.cell (by show g + 1 ≠ g + 1 + 1; omega) p0
    have fp0b : ((U.setCell ⟨g + 1 + 1, 0, none⟩ (.bool leaf)).setCell ⟨g + 1 + 1, 1, none⟩ (.slice none 0 0)).frozen? ⟨g + 1, 0, none⟩ = false := (HCB.out.frozen (by show g + 1 ≠ g + 1 + 1; omega) (lt_of_row HU.out.r1)).trans fp0
    have p1 : U.cell? ⟨g + 1, 1, none⟩ = some (.slice none 0 0) := row_cell HU.out.r1 1 _ rfl
    have fp1 := frozen_of_row _ _ 1 _ _ HU.out.r1
    have p1b : ((U.setCell ⟨g + 1 + 1, 0, none⟩ (.bool leaf)).setCell ⟨g + 1 + 1, 1, none⟩ (.slice none 0 0)).cell? ⟨g + 1, 1, none⟩ = some (.slice none 0 0) := HCB.out.cell (by show g + 1 ≠ g + 1 + 1; omega) p1
    have fp1b : ((U.setCell ⟨g + 1 + 1, 0, none⟩ (.bool leaf)).setCell ⟨g + 1 + 1, 1, none⟩ (.slice none 0 0)).frozen? ⟨g + 1, 1, none⟩ = false := (HCB.out.frozen (by show g + 1 ≠ g + 1 + 1; omega) (lt_of_row HU.out.r1)).trans fp1
    have q0 : U.cell? ⟨g + 1 + 1, 0, none⟩ = some (.bool false) := row_cell HU.out.r2 0 _ rfl
    have fq0 := frozen_of_row _ _ 0 _ _ HU.out.r2
    have q0a : ((U.setCell ⟨g + 1, 0, none⟩ (.bool leaf)).setCell ⟨g + 1, 1, none⟩ (.slice A zs.length cap)).cell? ⟨g + 1 + 1, 0, none⟩ = some (.bool false) := HCA.out.cell (by show g + 1 + 1 ≠ g + 1; omega) q0
    have fq0a : ((U.setCell ⟨g + 1, 0, none⟩ (.bool leaf)).setCell ⟨g + 1, 1, none⟩ (.slice A zs.length cap)).frozen? ⟨g + 1 + 1, 0, none⟩ = false := (HCA.out.frozen (by show g + 1 + 1 ≠ g + 1; omega) (lt_of_row HU.out.r2)).trans fq0
    have q1 : U.cell? ⟨g + 1 + 1, 1, none⟩ = some (.slice none 0 0) := row_cell HU.out.r2 1 _ rfl
    have fq1 := frozen_of_row _ _ 1 _ _ HU.out.r2
    have q1a : ((U.setCell ⟨g + 1, 0, none⟩ (.bool leaf)).setCell ⟨g + 1, 1, none⟩ (.slice A zs.length cap)).cell? ⟨g + 1 + 1, 1, none⟩ = some (.slice none 0 0) := HCA.out.cell (by show g + 1 + 1 ≠ g + 1; omega) q1
    have fq1a : ((U.setCell ⟨g + 1, 0, none⟩ (.bool leaf)).setCell ⟨g + 1, 1, none⟩ (.slice A zs.length cap)).frozen? ⟨g + 1 + 1, 1, none⟩ = false := (HCA.out.frozen (by show g + 1 + 1 ≠ g + 1; omega) (lt_of_row HU.out.r2)).trans fq1
    clear HCA HCB HCAB HCBA
    go_wp2
    go_region
    go_wp2
    have HE := Lib.hid (HU.out.end1 (.bool leaf) (.slice A zs.length cap) (.bool leaf) (.slice none 0 0))
    refine bodyPost_ret (results_c_t_c rfl _ _ (g + 1) (g + 1 + 1) _ _ #[.bool leaf, .slice A zs.length cap] #[.bool leaf, .slice none 0 0] (0, 0) (0, 0) (.struct _) (.struct _) rfl HE.out.2.1 Try.underlying32 rfl (by kernel_rfl) rfl HE.out.2.2 Try.underlying32 rfl (by kernel_rfl)) rfl ⟨_, _, rfl, ⟨A, cap, rfl, HS.out.1.gr HE.out.1, HS.out.2.1, HS.out.2.2⟩, ⟨none, 0, rfl, .inl rfl, Nat.le_refl _, Nat.zero_le _⟩, HE.out.1⟩
  · have h2' : ¬ ((zs.length : Nat) : Int) < 2 := by omega
    rcases hs with h0 | ⟨a, off, rfl, hcell⟩
    · rw [h0] at h2; simp at h2
    have hi := hfAt_le (rcSum leaf) zs (by omega)
    have eA : spA (rcSum leaf) zs = zs.take (hfAt (rcSum leaf) zs) := by unfold spA; rw [if_neg h2]
    have eB : spB (rcSum leaf) zs = zs.drop (hfAt (rcSum leaf) zs) := by unfold spB; rw [if_neg h2]
    rw [eA, eB]
    clear eA eB
    generalize hI : hfAt (rcSum leaf) zs = i at *
    have HI := Lib.hid hI
    clear hI
    have l1 : (zs.take i).length = i := by rw [List.length_take]; omega
    have l2 : (zs.drop i).length = zs.length - i := List.length_drop
    have hsA := fun w1 (hg : Gr w w1) => (SliceAt.take (.inr ⟨a, off, rfl, hcell⟩ : SliceAt w (some ⟨a, off, none⟩) 4 ceCell zs) i).gr hg
    have hsB := fun w1 (hg : Gr w w1) => (SliceAt.dropAt hcell i).gr hg
    obtain ⟨ya, hya⟩ : ∃ ya, ya = zs.take i := ⟨_, rfl⟩
    obtain ⟨yb, hyb⟩ : ∃ yb, yb = zs.drop i := ⟨_, rfl⟩
    rw [← hya, ← hyb]
    rw [← hya] at hsA l1
    rw [← hyb] at hsB l2
    have HYL := Lib.hid (And.intro l1 (And.intro l2 hi))
    have HSA := Lib.hid hsA
    have HSB := Lib.hid hsB
    clear hsA hsB l1 l2 hya hyb hi
    go_enter Try.func12, Try.ntmps12
    go_wp2
    have h3 := heap_alloc3 w (.cells #[.bool leaf, .slice (some ⟨a, off, none⟩) zs.length cap] 32) (.cells #[.bool false, .slice none 0 0] 32) (.cells #[.bool false, .slice none 0 0] 32)
    generalize hgw : w.heap.size = g at *
    have HU : Hid (SqW w (((w.alloc (.cells #[.bool leaf, .slice (some ⟨a, off, none⟩) zs.length cap] 32)).alloc (.cells #[.bool false, .slice none 0 0] 32)).alloc (.cells #[.bool false, .slice none 0 0] 32)) g #[.bool leaf, .slice (some ⟨a, off, none⟩) zs.length cap] #[.bool false, .slice none 0 0] #[.bool false, .slice none 0 0]) := ⟨(((Gr.refl w).alloc _).alloc _).alloc _, h3.1, h3.2.1, h3.2.2, hgw⟩
    clear h3 hgw
    generalize (((w.alloc (.cells #[.bool leaf, .slice (some ⟨a, off, none⟩) zs.length cap] 32)).alloc (.cells #[.bool false, .slice none 0 0] 32)).alloc (.cells #[.bool false, .slice none 0 0] 32)) = U at *
    have HBD := Lib.hid (hfGo_bd (fun i => rcSum leaf (zs.take i)) (rcSum leaf zs) (0, -1) (by simp) (fun i => by have := rc_bd leaf (zs.take i) (by rw [List.length_take]; omega) (fun x hq => hx x (List.mem_of_mem_take hq)); omega) (by have := rc_bd leaf zs hl hx; omega))
    have HBS : Hid ((∀ i, rcSum leaf (zs.take i) ≤ 241208000) ∧ (∀ i, rcSum leaf (zs.drop i) ≤ 241208000)) := ⟨fun i => rc_bd leaf (zs.take i) (by rw [List.length_take]; omega) (fun x hq => hx x (List.mem_of_mem_take hq)), fun i => rc_bd leaf (zs.drop i) (by rw [List.length_drop]; omega) (fun x hq => hx x (List.mem_of_mem_drop hq))⟩
    have HC1 : Hid (∀ i w1, i ≤ zs.length → Gr w w1 → Calls Try.prog 44 #[.slice (some ⟨a, off, none⟩) i cap, .bool leaf] w1 fun r w' => r = .returned (.int .i64 ((rcSum leaf (zs.take i) : Nat) : Int)) ∧ Gr w1 w') := by
      intro i w1 hi hg
      have l1 : (zs.take i).length = i := by rw [List.length_take]; omega
      have := rf_sum leaf (some ⟨a, off, none⟩) cap (zs.take i) (by omega) (by unfold maxLen; omega) (by omega) (fun x hq => hx x (List.mem_of_mem_take hq)) w1 ((SliceAt.take (.inr ⟨a, off, rfl, hcell⟩) i).gr hg)
      rw [l1] at this
      exact this
    have HC2 : Hid (∀ i w1, i ≤ zs.length → Gr w w1 → Calls Try.prog 44 #[.slice (some ⟨a, off + i * 4, none⟩) (zs.length - i) (cap - i), .bool leaf] w1 fun r w' => r = .returned (.int .i64 ((rcSum leaf (zs.drop i) : Nat) : Int)) ∧ Gr w1 w') := by
      intro i w1 hi hg
      have l1 : (zs.drop i).length = zs.length - i := List.length_drop
      have := rf_sum leaf (some ⟨a, off + i * 4, none⟩) (cap - i) (zs.drop i) (by omega) (by unfold maxLen; omega) (by omega) (fun x hq => hx x (List.mem_of_mem_drop hq)) w1 ((SliceAt.dropAt hcell i).gr hg)
      rw [l1] at this
      exact this
    have HSP : Hid (∀ i, rcSum leaf (zs.take i) + rcSum leaf (zs.drop i) = rcSum leaf zs) := fun i => rc_split leaf zs i
    have HCC := Lib.hid hcell
    clear hcell hx
    generalize hall : rcSum leaf zs = all at HBD HSP
    have HALL := Lib.hid hall
    clear hall
    go_loopw [5, 6, 7] (fun be le i wr => ∃ k : Nat, k ≤ zs.length - 1 ∧ i = .int .i64 ((k + 1 : Nat) : Int) ∧ be = .int .i64 (((hfGo (fun i => rcSum leaf (zs.take i)) all (0, -1) k).1 : Nat) : Int) ∧ le = .int .i64 (hfGo (fun i => rcSum leaf (zs.take i)) all (0, -1) k).2 ∧ Hid (SqW w wr g #[.bool leaf, .slice (some ⟨a, off, none⟩) zs.length cap] #[.bool false, .slice none 0 0] #[.bool false, .slice none 0 0])) (fun _ _ i _ => zs.length - (intOf i).toNat)
    case atStart => exact ⟨0, by omega, rfl, rfl, rfl, HU.out⟩
    case round =>
      obtain ⟨k, hk, rfl, rfl, rfl, HR⟩ := hrel
      clear HU
      have x0 : wr.cell? ⟨g, 0, none⟩ = some (.bool leaf) := row_cell HR.out.n 0 _ rfl
      have x1 : wr.cell? ⟨g, 1, none⟩ = some (.slice (some ⟨a, off, none⟩) zs.length cap) := row_cell HR.out.n 1 _ rfl
      by_cases hlt : k + 1 < zs.length
      · have hbd1 := HBD.out k
        have hb1 := HBS.out.1 (k + 1)
        have hb2 := HBS.out.2 (k + 1)
        have hsp := HSP.out (k + 1)
        have hDe : hfD (fun i => rcSum leaf (zs.take i)) all (k + 1) = max ((rcSum leaf (zs.take (k + 1)) : Int) - ((all : Int) - (rcSum leaf (zs.take (k + 1)) : Int))) ((all : Int) - (rcSum leaf (zs.take (k + 1)) : Int) - (rcSum leaf (zs.take (k + 1)) : Int)) := rfl
        have hpos := hfGo_pos (fun i => rcSum leaf (zs.take i)) all k (0, -1)
        have hneg := hfGo_neg (fun i => rcSum leaf (zs.take i)) all k (0, -1)
        have cS1 := fun w1 (hg : Gr w w1) => Lib.hid (HC1.out (k + 1) w1 (by omega) hg)
        have cS2 := fun w1 (hg : Gr w w1) => Lib.hid (HC2.out (k + 1) w1 (by omega) hg)
        generalize hfD (fun i => rcSum leaf (zs.take i)) all (k + 1) = D at *
        generalize hS2 : hfGo (fun i => rcSum leaf (zs.take i)) all (0, -1) (k + 1) = st2 at *
        have HS2 := Lib.hid hS2
        clear hS2
        generalize hfGo (fun i => rcSum leaf (zs.take i)) all (0, -1) k = st at *
        generalize hB : st.1 = b at *
        have HB1 := Lib.hid hB
        clear hB
        generalize hE : st.2 = le at *
        have HE1 := Lib.hid hE
        clear hE
        generalize rcSum leaf (zs.take (k + 1)) = s1 at *
        generalize rcSum leaf (zs.drop (k + 1)) = s2 at *
        have hkt' : (((k + 1 : Nat) : Int)).toNat = k + 1 := by omega
        have hk0' : (0 : Int) ≤ ((k + 1 : Nat) : Int) := by omega
        have hk1' : ((k + 1 : Nat) : Int) ≤ ((zs.length : Nat) : Int) := by omega
        have hk2' : ((k + 1 : Nat) : Int) ≤ ((cap : Nat) : Int) := by omega
        have hkt : ((k : Int) + 1).toNat = k + 1 := by omega
        have hk0 : (0 : Int) ≤ (k : Int) + 1 := by omega
        have hk1 : (k : Int) + 1 ≤ ((zs.length : Nat) : Int) := by omega
        have hk2 : (k : Int) + 1 ≤ ((cap : Nat) : Int) := by omega
        have hk3 : ¬ cap = k + 1 := by omega
        have hk1z : (k : Int) + 1 < ((zs.length : Nat) : Int) := by omega
        have HPN := Lib.hid (And.intro hpos hneg)
        clear hpos hneg
        have HQ := Lib.hid (And.intro x0 x1)
        have HRd := Lib.hid (HR.out.step (Gr.refl wr).drew)
        by_cases c0 : (s1 : Int) - (s2 : Int) < 0
        · have hw1 : IntKind.i64.wrap ((s1 : Int) - (s2 : Int)) = (s1 : Int) - (s2 : Int) := by rw [IntKind.wrap_i64]; omega
          have hw2 : IntKind.i64.wrap (-((s1 : Int) - (s2 : Int))) = D := by rw [IntKind.wrap_i64, hDe]; omega
          have hw3 : IntKind.i64.wrap ((s2 : Int) - (s1 : Int)) = D := by rw [IntKind.wrap_i64, hDe]; omega
          have hD0 : 0 ≤ D := by rw [hDe]; omega
          clear hDe hsp
          by_cases c1 : le < 0
          · obtain rfl := HPN.out.1 (.inl c1)
            by_cases c2 : D < le
            · exfalso; omega
            · go_wp2
              go_region_held3 (fun w' => w'.cell? ⟨g, 0, none⟩ = some (.bool leaf) ∧ w'.cell? ⟨g, 1, none⟩ = some (.slice (some ⟨a, off, none⟩) zs.length cap)) (first | exact HQ.out | assumption)
                (first
                  | (go_at_call 44; (with_reducible show Calls _ _ #[.slice (some ⟨a, off, none⟩) _ _, _] _ _); refine (cS1 _ HRd.out.gr).out.mono ?_; clear cS1; rintro r v1 ⟨rfl, hg⟩; have HR1 := Lib.hid (HRd.out.step hg); have HQ : Hid (v1.cell? ⟨g, 0, none⟩ = some (.bool leaf) ∧ v1.cell? ⟨g, 1, none⟩ = some (.slice (some ⟨a, off, none⟩) zs.length cap)) := ⟨row_cell HR1.out.n 0 _ rfl, row_cell HR1.out.n 1 _ rfl⟩; clear hg)
                  | (go_at_call 44; refine (cS2 _ HR1.out.gr).out.mono ?_; clear cS2; rintro r v2 ⟨rfl, hg⟩; have HR2 := Lib.hid (HR1.out.step hg); have HQ : Hid (v2.cell? ⟨g, 0, none⟩ = some (.bool leaf) ∧ v2.cell? ⟨g, 1, none⟩ = some (.slice (some ⟨a, off, none⟩) zs.length cap)) := ⟨row_cell HR2.out.n 0 _ rfl, row_cell HR2.out.n 1 _ rfl⟩; clear hg))
              go_wp2
              go_roundw
              case rel => exact ⟨k + 1, by omega, by go_num, by rw [HS2.out]; simp, by rw [HS2.out], HR2⟩
              case measure => (simp [intOf]; try omega)
          · by_cases c2 : D < le
            · obtain rfl := HPN.out.1 (.inr c2)
              go_wp2
              go_region_held3 (fun w' => w'.cell? ⟨g, 0, none⟩ = some (.bool leaf) ∧ w'.cell? ⟨g, 1, none⟩ = some (.slice (some ⟨a, off, none⟩) zs.length cap)) (first | exact HQ.out | assumption)
                (first
                  | (go_at_call 44; (with_reducible show Calls _ _ #[.slice (some ⟨a, off, none⟩) _ _, _] _ _); refine (cS1 _ HRd.out.gr).out.mono ?_; clear cS1; rintro r v1 ⟨rfl, hg⟩; have HR1 := Lib.hid (HRd.out.step hg); have HQ : Hid (v1.cell? ⟨g, 0, none⟩ = some (.bool leaf) ∧ v1.cell? ⟨g, 1, none⟩ = some (.slice (some ⟨a, off, none⟩) zs.length cap)) := ⟨row_cell HR1.out.n 0 _ rfl, row_cell HR1.out.n 1 _ rfl⟩; clear hg)
                  | (go_at_call 44; refine (cS2 _ HR1.out.gr).out.mono ?_; clear cS2; rintro r v2 ⟨rfl, hg⟩; have HR2 := Lib.hid (HR1.out.step hg); have HQ : Hid (v2.cell? ⟨g, 0, none⟩ = some (.bool leaf) ∧ v2.cell? ⟨g, 1, none⟩ = some (.slice (some ⟨a, off, none⟩) zs.length cap)) := ⟨row_cell HR2.out.n 0 _ rfl, row_cell HR2.out.n 1 _ rfl⟩; clear hg))
              go_wp2
              go_roundw
              case rel => exact ⟨k + 1, by omega, by go_num, by rw [HS2.out]; simp, by rw [HS2.out], HR2⟩
              case measure => (simp [intOf]; try omega)
            · have he := HPN.out.2 (fun h => h.elim c1 c2)
              go_wp2
              go_region_held3 (fun w' => w'.cell? ⟨g, 0, none⟩ = some (.bool leaf) ∧ w'.cell? ⟨g, 1, none⟩ = some (.slice (some ⟨a, off, none⟩) zs.length cap)) (first | exact HQ.out | assumption)
                (first
                  | (go_at_call 44; (with_reducible show Calls _ _ #[.slice (some ⟨a, off, none⟩) _ _, _] _ _); refine (cS1 _ HRd.out.gr).out.mono ?_; clear cS1; rintro r v1 ⟨rfl, hg⟩; have HR1 := Lib.hid (HRd.out.step hg); have HQ : Hid (v1.cell? ⟨g, 0, none⟩ = some (.bool leaf) ∧ v1.cell? ⟨g, 1, none⟩ = some (.slice (some ⟨a, off, none⟩) zs.length cap)) := ⟨row_cell HR1.out.n 0 _ rfl, row_cell HR1.out.n 1 _ rfl⟩; clear hg)
                  | (go_at_call 44; refine (cS2 _ HR1.out.gr).out.mono ?_; clear cS2; rintro r v2 ⟨rfl, hg⟩; have HR2 := Lib.hid (HR1.out.step hg); have HQ : Hid (v2.cell? ⟨g, 0, none⟩ = some (.bool leaf) ∧ v2.cell? ⟨g, 1, none⟩ = some (.slice (some ⟨a, off, none⟩) zs.length cap)) := ⟨row_cell HR2.out.n 0 _ rfl, row_cell HR2.out.n 1 _ rfl⟩; clear hg))
              go_wp2
              go_roundw
              case rel => exact ⟨k + 1, by omega, by go_num, by rw [HS2.out, he, HB1.out], by rw [HS2.out, he, HE1.out], HR2⟩
              case measure => (simp [intOf]; try omega)
        · have hw1 : IntKind.i64.wrap ((s1 : Int) - (s2 : Int)) = D := by rw [IntKind.wrap_i64, hDe]; omega
          have hD0 : ¬ D < 0 := by rw [hDe]; omega
          clear hDe hsp c0
          by_cases c1 : le < 0
          · obtain rfl := HPN.out.1 (.inl c1)
            by_cases c2 : D < le
            · exfalso; omega
            · go_wp2
              go_region_held3 (fun w' => w'.cell? ⟨g, 0, none⟩ = some (.bool leaf) ∧ w'.cell? ⟨g, 1, none⟩ = some (.slice (some ⟨a, off, none⟩) zs.length cap)) (first | exact HQ.out | assumption)
                (first
                  | (go_at_call 44; (with_reducible show Calls _ _ #[.slice (some ⟨a, off, none⟩) _ _, _] _ _); refine (cS1 _ HRd.out.gr).out.mono ?_; clear cS1; rintro r v1 ⟨rfl, hg⟩; have HR1 := Lib.hid (HRd.out.step hg); have HQ : Hid (v1.cell? ⟨g, 0, none⟩ = some (.bool leaf) ∧ v1.cell? ⟨g, 1, none⟩ = some (.slice (some ⟨a, off, none⟩) zs.length cap)) := ⟨row_cell HR1.out.n 0 _ rfl, row_cell HR1.out.n 1 _ rfl⟩; clear hg)
                  | (go_at_call 44; refine (cS2 _ HR1.out.gr).out.mono ?_; clear cS2; rintro r v2 ⟨rfl, hg⟩; have HR2 := Lib.hid (HR1.out.step hg); have HQ : Hid (v2.cell? ⟨g, 0, none⟩ = some (.bool leaf) ∧ v2.cell? ⟨g, 1, none⟩ = some (.slice (some ⟨a, off, none⟩) zs.length cap)) := ⟨row_cell HR2.out.n 0 _ rfl, row_cell HR2.out.n 1 _ rfl⟩; clear hg))
              go_wp2
              go_roundw
              case rel => exact ⟨k + 1, by omega, by go_num, by rw [HS2.out]; simp, by rw [HS2.out], HR2⟩
              case measure => (simp [intOf]; try omega)
          · by_cases c2 : D < le
            · obtain rfl := HPN.out.1 (.inr c2)
              go_wp2
              go_region_held3 (fun w' => w'.cell? ⟨g, 0, none⟩ = some (.bool leaf) ∧ w'.cell? ⟨g, 1, none⟩ = some (.slice (some ⟨a, off, none⟩) zs.length cap)) (first | exact HQ.out | assumption)
                (first
                  | (go_at_call 44; (with_reducible show Calls _ _ #[.slice (some ⟨a, off, none⟩) _ _, _] _ _); refine (cS1 _ HRd.out.gr).out.mono ?_; clear cS1; rintro r v1 ⟨rfl, hg⟩; have HR1 := Lib.hid (HRd.out.step hg); have HQ : Hid (v1.cell? ⟨g, 0, none⟩ = some (.bool leaf) ∧ v1.cell? ⟨g, 1, none⟩ = some (.slice (some ⟨a, off, none⟩) zs.length cap)) := ⟨row_cell HR1.out.n 0 _ rfl, row_cell HR1.out.n 1 _ rfl⟩; clear hg)
                  | (go_at_call 44; refine (cS2 _ HR1.out.gr).out.mono ?_; clear cS2; rintro r v2 ⟨rfl, hg⟩; have HR2 := Lib.hid (HR1.out.step hg); have HQ : Hid (v2.cell? ⟨g, 0, none⟩ = some (.bool leaf) ∧ v2.cell? ⟨g, 1, none⟩ = some (.slice (some ⟨a, off, none⟩) zs.length cap)) := ⟨row_cell HR2.out.n 0 _ rfl, row_cell HR2.out.n 1 _ rfl⟩; clear hg))
              go_wp2
              go_roundw
              case rel => exact ⟨k + 1, by omega, by go_num, by rw [HS2.out]; simp, by rw [HS2.out], HR2⟩
              case measure => (simp [intOf]; try omega)
            · have he := HPN.out.2 (fun h => h.elim c1 c2)
              go_wp2
              go_region_held3 (fun w' => w'.cell? ⟨g, 0, none⟩ = some (.bool leaf) ∧ w'.cell? ⟨g, 1, none⟩ = some (.slice (some ⟨a, off, none⟩) zs.length cap)) (first | exact HQ.out | assumption)
                (first
                  | (go_at_call 44; (with_reducible show Calls _ _ #[.slice (some ⟨a, off, none⟩) _ _, _] _ _); refine (cS1 _ HRd.out.gr).out.mono ?_; clear cS1; rintro r v1 ⟨rfl, hg⟩; have HR1 := Lib.hid (HRd.out.step hg); have HQ : Hid (v1.cell? ⟨g, 0, none⟩ = some (.bool leaf) ∧ v1.cell? ⟨g, 1, none⟩ = some (.slice (some ⟨a, off, none⟩) zs.length cap)) := ⟨row_cell HR1.out.n 0 _ rfl, row_cell HR1.out.n 1 _ rfl⟩; clear hg)
                  | (go_at_call 44; refine (cS2 _ HR1.out.gr).out.mono ?_; clear cS2; rintro r v2 ⟨rfl, hg⟩; have HR2 := Lib.hid (HR1.out.step hg); have HQ : Hid (v2.cell? ⟨g, 0, none⟩ = some (.bool leaf) ∧ v2.cell? ⟨g, 1, none⟩ = some (.slice (some ⟨a, off, none⟩) zs.length cap)) := ⟨row_cell HR2.out.n 0 _ rfl, row_cell HR2.out.n 1 _ rfl⟩; clear hg))
              go_wp2
              go_roundw
              case rel => exact ⟨k + 1, by omega, by go_num, by rw [HS2.out, he, HB1.out], by rw [HS2.out, he, HE1.out], HR2⟩
              case measure => (simp [intOf]; try omega)
      · have hk2 : k = zs.length - 1 := by omega
        have hk1z : ¬ (k : Int) + 1 < ((zs.length : Nat) : Int) := by omega
        have hA3 : (hfGo (fun i => rcSum leaf (zs.take i)) all (0, -1) k).1 = i := by
          obtain ⟨m, hm⟩ : ∃ m, zs.length - 1 = m + 1 := ⟨zs.length - 2, by omega⟩
          rw [← HI.out]
          unfold hfAt
          rw [hk2, hm, ← HALL.out, hfGo_same _ _ (0, -1) (1, -1) (by decide) (by decide)]
        rw [hA3]
        clear hA3 hk2 h2 hlt HBD HBS HC1 HC2 HSP HCC HALL HI
        have hi := HYL.out.2.2
        have hi0 : (0 : Int) ≤ (i : Int) := by omega
        have hi1 : (i : Int) ≤ ((zs.length : Nat) : Int) := by omega
        have hi2 : (i : Int) ≤ ((cap : Nat) : Int) := by omega
        have hi3 : (i : Int).toNat = i := by omega
        have hi4 : ¬ cap = i := by omega
        generalize wr = V at *
        have HW0 : Hid (Gr V (V.alloc (.cells #[.bool false, .slice none 0 0] 32))) := ((Gr.refl V).alloc _)
        have x0_0 := HW0.out.cells x0
        have HW1 : Hid (Gr V (V.alloc (.cells #[.bool leaf, .slice none 0 0] 32))) := ((Gr.refl V).alloc _)
        have x0_1 := HW1.out.cells x0
        have HW2 : Hid (Gr V ((V.alloc (.cells #[.bool false, .slice none 0 0] 32)).alloc (.cells #[.bool false, .slice none 0 0] 32))) := (((Gr.refl V).alloc _).alloc _)
        have x0_2 := HW2.out.cells x0
        have HW3 : Hid (Gr V ((V.alloc (.cells #[.bool leaf, .slice none 0 0] 32)).alloc (.cells #[.bool false, .slice none 0 0] 32))) := (((Gr.refl V).alloc _).alloc _)
        have x0_3 := HW3.out.cells x0
        have HW4 : Hid (Gr V ((V.alloc (.cells #[.bool false, .slice none 0 0] 32)).alloc (.cells #[.bool leaf, .slice none 0 0] 32))) := (((Gr.refl V).alloc _).alloc _)
        have x0_4 := HW4.out.cells x0
        go_wp2
        go_region
        · have HX0 : Hid (SqX w ((V.alloc (.cells #[.bool leaf, .slice none 0 0] 32)).alloc (.cells #[.bool leaf, .slice none 0 0] 32)).drew g (V.heap.size) (V.heap.size + 1) #[.bool leaf, .slice (some ⟨a, off, none⟩) zs.length cap] #[.bool false, .slice none 0 0] #[.bool false, .slice none 0 0] #[.bool leaf, .slice none 0 0] #[.bool leaf, .slice none 0 0]) := (SqX.new HR.out).1
          clear x0 x1 x0_0 HW0 x0_1 HW1 x0_2 HW2 x0_3 HW3 x0_4 HW4 HR
          generalize ((V.alloc (.cells #[.bool leaf, .slice none 0 0] 32)).alloc (.cells #[.bool leaf, .slice none 0 0] 32)).drew = U at *
          generalize V.heap.size + 1 = bb at *
          generalize V.heap.size = ba at *
          have HLA : Hid ((ya.flatMap ceCell).length = i * 4) := by unfold Hid; rw [cells_len 4 ceCell_len, HYL.out.1]
          have HEA : Hid (ya.length = i) := HYL.out.1
          have HLB : Hid ((yb.flatMap ceCell).length = (zs.length - i) * 4) := by unfold Hid; rw [cells_len 4 ceCell_len, HYL.out.2.1]
          have HEB : Hid (yb.length = zs.length - i) := HYL.out.2.1
          have n1 : U.cell? ⟨g, 1, none⟩ = some (.slice (some ⟨a, off, none⟩) zs.length cap) := row_cell HX0.out.q.n 1 _ rfl
          have a1 := row_cell HX0.out.a 1 _ rfl
          have fa1 := frozen_of_row _ _ 1 _ _ HX0.out.a
          have hga : g ≠ ba := by have := HX0.out.la; omega
          have hgb : g ≠ bb := by have := HX0.out.lb; omega
          have a1d : U.drew.cell? ⟨ba, 1, none⟩ = some (.slice none 0 0) := a1
          go_wp2
          go_still_tail 6, (by kernel_rfl)
          change wpList _ _ _ _ _ U.drew
          go_wp2_with (at_builtin; refine wpList_append_lies _ rfl _ _ 22 rfl U.heap.size 59 ii _ 4 40 Try.underlying22 hii hz0 hz1 hz2 rfl (by omega) (.slice none 0 0) 0 (([] : List Ce).flatMap ceCell) rfl (Own.nil _ _ _ _ _) ⟨a, off, none⟩ i cap (ya.flatMap ceCell) rfl (HLA.out) (fun j u hu => (HSA.out _ HX0.out.q.gr.drew).news ceCell_len j u hu) (cells_one ceCell_one ya) (by omega) (by unfold maxLen; omega) (by omega) (Nat.le_refl _) _ rfl ?_; intro gA ca vA hown hgrow hat hlt5; have HXA := Lib.hid ((HX0.out.step (Gr.refl U).drew).step ((Own.nil U.drew U.drew.heap.size 59 4 ceCell).grown hgrow (Gr.refl _) (Nat.le_refl _))); have HOA : Hid (Own vA U.heap.size 59 4 ceCell (some ⟨gA, 0, none⟩) ca ([] ++ ya)) := Own.app (by rw [HEA.out]; exact hown); have cA := row_cell HXA.out.a 1 _ rfl; have fA := frozen_of_row _ _ 1 _ _ HXA.out.a;  clear hown hgrow hat)
          have HX1 := Lib.hid (HXA.out.putA 1 (.slice (some ⟨gA, 0, none⟩) i ca))
          have HOA1 : Hid (Own (vA.setCell ⟨ba, 1, none⟩ (.slice (some ⟨gA, 0, none⟩) i ca)) U.heap.size 59 4 ceCell (some ⟨gA, 0, none⟩) ca ya) := HOA.out.ch ((Ch.refl ba vA).setCell 1 _) (fun e => by have := (HOA.out.lt e).2; have := lt_of_row HX0.out.a; omega)
          have HBA : Hid (ba < U.heap.size ∧ bb < U.heap.size) := ⟨lt_of_row HX0.out.a, lt_of_row HX0.out.b⟩
          generalize vA.setCell ⟨ba, 1, none⟩ (.slice (some ⟨gA, 0, none⟩) i ca) = U3 at *
          have n1 : U3.cell? ⟨g, 1, none⟩ = some (.slice (some ⟨a, off, none⟩) zs.length cap) := row_cell HX1.out.q.n 1 _ rfl
          have b1 := row_cell HX1.out.b 1 _ rfl
          clear a1 fa1 a1d HXA HOA cA fA HX0
          have hy0 : 0 < yb.length := by have h1 := HYL.out; omega
          cases yb with
          | nil => simp at hy0
          | cons y0 yt =>
            have HLEN : Hid (zs.length - i = (y0 :: yt).length) := HYL.out.2.1.symm
            have hly : zs.length - i ≤ 4000 := by omega
            have hly0 : 0 < zs.length - i := by have h1 := HYL.out; omega
            have hly1 : (0 : Int) < ((zs.length - i : Nat) : Int) := by omega
            clear hy0
            cases leaf
            · go_wp2
              go_still_tail 6, (by kernel_rfl)
              change wpList _ _ _ _ _ U3.drew
              go_wp2_with (at_builtin; refine wpList_append_lies _ rfl _ _ 22 rfl U3.heap.size 59 ii _ 4 40 Try.underlying22 hii hz0 hz1 hz2 rfl (by omega) (.slice none 0 0) 0 (([] : List Ce).flatMap ceCell) rfl (Own.nil _ _ _ _ _) ⟨a, off + i * 4, none⟩ (zs.length - i) (cap - i) ((y0 :: yt).flatMap ceCell) rfl (HLB.out) (fun j u hu => (HSB.out _ HX1.out.q.gr.drew).news ceCell_len j u hu) (cells_one ceCell_one (y0 :: yt)) (by omega) (by unfold maxLen; omega) (by omega) (Nat.le_refl _) _ rfl ?_; intro gB cb vB hown hgrow hat hlt5; have HXB := Lib.hid ((HX1.out.step (Gr.refl U3).drew).step ((Own.nil U3.drew U3.drew.heap.size 59 4 ceCell).grown hgrow (Gr.refl _) (Nat.le_refl _))); have HOB : Hid (Own vB U3.heap.size 59 4 ceCell (some ⟨gB, 0, none⟩) cb ([] ++ (y0 :: yt))) := Own.app (by rw [HEB.out]; exact hown); have cB := row_cell HXB.out.b 1 _ rfl; have fB := frozen_of_row _ _ 1 _ _ HXB.out.b; have HOA2 := Lib.hid (HOA1.out.gr ((Gr.refl U3).drew.trans ((Own.nil U3.drew U3.drew.heap.size 59 4 ceCell).grown hgrow (Gr.refl _) (Nat.le_refl _)))); obtain ⟨cur, hrow⟩ := HOB.out.row; have fkB := frozen_of_row _ _ 0 _ _ hrow; obtain ⟨q, hq, hq1, hq2, hqc⟩ := HOB.out.head ceCell_len; cases hq; have kB : vB.cell? ⟨gB, 0, none⟩ = some (.string y0.1) := hqc 0 _ rfl; have hgbb : gB ≠ bb := (by have := lt_of_row HX1.out.b; omega); have hggb : g ≠ bb := (by have := HX1.out.lb; omega); have C4 := Lib.hid ((Ch.refl bb vB).setCell 1 (.slice (some ⟨gB, 0, none⟩) (zs.length - i) cb)); have kB4 : (vB.setCell ⟨bb, 1, none⟩ (.slice (some ⟨gB, 0, none⟩) (zs.length - i) cb)).cell? ⟨gB, 0, none⟩ = some (.string y0.1) := C4.out.cell hgbb kB; have fkB4 : (vB.setCell ⟨bb, 1, none⟩ (.slice (some ⟨gB, 0, none⟩) (zs.length - i) cb)).frozen? ⟨gB, 0, none⟩ = false := (C4.out.frozen hgbb hlt5).trans fkB; have nB4 : (vB.setCell ⟨bb, 1, none⟩ (.slice (some ⟨gB, 0, none⟩) (zs.length - i) cb)).cell? ⟨g, 0, none⟩ = some (.bool false) := C4.out.cell hggb (row_cell HXB.out.q.n 0 _ rfl); have HGB := Lib.hid hq1; clear hrow hq1 hq2 hqc; clear hown hgrow hat)
              have HX2 := Lib.hid (HXB.out.putB 1 (.slice (some ⟨gB, 0, none⟩) (zs.length - i) cb))
              have HObb : Hid (Own (vB.setCell ⟨bb, 1, none⟩ (.slice (some ⟨gB, 0, none⟩) (zs.length - i) cb)) U3.heap.size 59 4 ceCell (some ⟨gB, 0, none⟩) cb (y0 :: yt)) := HOB.out.ch ((Ch.refl bb vB).setCell 1 _) (fun e => by cases e; exact absurd rfl hgbb)
              have HOA3 : Hid (Own (vB.setCell ⟨bb, 1, none⟩ (.slice (some ⟨gB, 0, none⟩) (zs.length - i) cb)) U.heap.size 59 4 ceCell (some ⟨gA, 0, none⟩) ca ya) := HOA2.out.ch ((Ch.refl bb vB).setCell 1 _) (fun e => by have := (HOA2.out.lt e).2; have := HBA.out.2; omega)
              have HAB : Hid (gA < U3.heap.size ∧ U3.heap.size ≤ gB ∧ bb < U3.heap.size ∧ ba < U3.heap.size) := ⟨(HOA1.out.lt rfl).1, HGB.out, lt_of_row HX1.out.b, lt_of_row HX1.out.a⟩
              generalize vB.setCell ⟨bb, 1, none⟩ (.slice (some ⟨gB, 0, none⟩) (zs.length - i) cb) = U4 at *
              clear HXB HOB cB fB HX1 HOA1 HOA2 n1 b1 kB fkB kB4 fkB4 nB4 C4 hlt5
              have hAB := HAB.out
              have hBA := HBA.out
              have hx2 := HX2.out.lb
              have C5 := Lib.hid ((Ch.refl gB U4).setCell 0 (.string { data := #[] }))
              have HX3 := Lib.hid (HX2.out.far C5.out (by omega) (by omega) (by omega))
              have HOB3 := Lib.hid (HObb.out.set0 (x' := (.empty, y0.2)) (.string { data := #[] }) rfl ceCell_len (by omega))
              have HOA4 := Lib.hid (HOA3.out.ch C5.out (fun e => by have e2 : gA = gB := Option.some.inj e; omega))
              clear hAB hBA C5
              generalize U4.setCell ⟨gB, 0, none⟩ (.string { data := #[] }) = U5 at *
              have hla := HX3.out.la
              have hlb := HX3.out.lb
              have HCA := Lib.hid (((Ch.refl (g + 1) U5).setCell 0 (.bool false)).setCell 1 (.slice (some ⟨gA, 0, none⟩) i ca))
              have HCB := Lib.hid (((Ch.refl (g + 1 + 1) U5).setCell 0 (.bool false)).setCell 1 (.slice (some ⟨gB, 0, none⟩) (zs.length - i) cb))
              have HCAB := Lib.hid (((Ch.refl (g + 1 + 1) ((U5.setCell ⟨g + 1, 0, none⟩ (.bool false)).setCell ⟨g + 1, 1, none⟩ (.slice (some ⟨gA, 0, none⟩) i ca))).setCell 0 (.bool false)).setCell 1 (.slice (some ⟨gB, 0, none⟩) (zs.length - i) cb))
              have HCBA := Lib.hid (((Ch.refl (g + 1) ((U5.setCell ⟨g + 1 + 1, 0, none⟩ (.bool false)).setCell ⟨g + 1 + 1, 1, none⟩ (.slice (some ⟨gB, 0, none⟩) (zs.length - i) cb))).setCell 0 (.bool false)).setCell 1 (.slice (some ⟨gA, 0, none⟩) i ca))
              have m0 : U5.cell? ⟨ba, 0, none⟩ = some (.bool false) := row_cell HX3.out.a 0 _ rfl
              have m0a : ((U5.setCell ⟨g + 1, 0, none⟩ (.bool false)).setCell ⟨g + 1, 1, none⟩ (.slice (some ⟨gA, 0, none⟩) i ca)).cell? ⟨ba, 0, none⟩ = some (.bool false) := HCA.out.cell (by show ba ≠ g + 1; omega) m0
              have m0ab : ((((U5.setCell ⟨g + 1, 0, none⟩ (.bool false)).setCell ⟨g + 1, 1, none⟩ (.slice (some ⟨gA, 0, none⟩) i ca)).setCell ⟨g + 1 + 1, 0, none⟩ (.bool false)).setCell ⟨g + 1 + 1, 1, none⟩ (.slice (some ⟨gB, 0, none⟩) (zs.length - i) cb)).cell? ⟨ba, 0, none⟩ = some (.bool false) := HCAB.out.cell (by show ba ≠ g + 1 + 1; omega) m0a
              have m0b : ((U5.setCell ⟨g + 1 + 1, 0, none⟩ (.bool false)).setCell ⟨g + 1 + 1, 1, none⟩ (.slice (some ⟨gB, 0, none⟩) (zs.length - i) cb)).cell? ⟨ba, 0, none⟩ = some (.bool false) := HCB.out.cell (by show ba ≠ g + 1 + 1; omega) m0
              have m0ba : ((((U5.setCell ⟨g + 1 + 1, 0, none⟩ (.bool false)).setCell ⟨g + 1 + 1, 1, none⟩ (.slice (some ⟨gB, 0, none⟩) (zs.length - i) cb)).setCell ⟨g + 1, 0, none⟩ (.bool false)).setCell ⟨g + 1, 1, none⟩ (.slice (some ⟨gA, 0, none⟩) i ca)).cell? ⟨ba, 0, none⟩ = some (.bool false) := HCBA.out.cell (by show ba ≠ g + 1; omega) m0b
              have m1 : U5.cell? ⟨ba, 1, none⟩ = some (.slice (some ⟨gA, 0, none⟩) i ca) := row_cell HX3.out.a 1 _ rfl
              have m1a : ((U5.setCell ⟨g + 1, 0, none⟩ (.bool false)).setCell ⟨g + 1, 1, none⟩ (.slice (some ⟨gA, 0, none⟩) i ca)).cell? ⟨ba, 1, none⟩ = some (.slice (some ⟨gA, 0, none⟩) i ca) := HCA.out.cell (by show ba ≠ g + 1; omega) m1
              have m1ab : ((((U5.setCell ⟨g + 1, 0, none⟩ (.bool false)).setCell ⟨g + 1, 1, none⟩ (.slice (some ⟨gA, 0, none⟩) i ca)).setCell ⟨g + 1 + 1, 0, none⟩ (.bool false)).setCell ⟨g + 1 + 1, 1, none⟩ (.slice (some ⟨gB, 0, none⟩) (zs.length - i) cb)).cell? ⟨ba, 1, none⟩ = some (.slice (some ⟨gA, 0, none⟩) i ca) := HCAB.out.cell (by show ba ≠ g + 1 + 1; omega) m1a
              have m1b : ((U5.setCell ⟨g + 1 + 1, 0, none⟩ (.bool false)).setCell ⟨g + 1 + 1, 1, none⟩ (.slice (some ⟨gB, 0, none⟩) (zs.length - i) cb)).cell? ⟨ba, 1, none⟩ = some (.slice (some ⟨gA, 0, none⟩) i ca) := HCB.out.cell (by show ba ≠ g + 1 + 1; omega) m1
              have m1ba : ((((U5.setCell ⟨g + 1 + 1, 0, none⟩ (.bool false)).setCell ⟨g + 1 + 1, 1, none⟩ (.slice (some ⟨gB, 0, none⟩) (zs.length - i) cb)).setCell ⟨g + 1, 0, none⟩ (.bool false)).setCell ⟨g + 1, 1, none⟩ (.slice (some ⟨gA, 0, none⟩) i ca)).cell? ⟨ba, 1, none⟩ = some (.slice (some ⟨gA, 0, none⟩) i ca) := HCBA.out.cell (by show ba ≠ g + 1; omega) m1b
              have n0 : U5.cell? ⟨bb, 0, none⟩ = some (.bool false) := row_cell HX3.out.b 0 _ rfl
              have n0a : ((U5.setCell ⟨g + 1, 0, none⟩ (.bool false)).setCell ⟨g + 1, 1, none⟩ (.slice (some ⟨gA, 0, none⟩) i ca)).cell? ⟨bb, 0, none⟩ = some (.bool false) := HCA.out.cell (by show bb ≠ g + 1; omega) n0
              have n0ab : ((((U5.setCell ⟨g + 1, 0, none⟩ (.bool false)).setCell ⟨g + 1, 1, none⟩ (.slice (some ⟨gA, 0, none⟩) i ca)).setCell ⟨g + 1 + 1, 0, none⟩ (.bool false)).setCell ⟨g + 1 + 1, 1, none⟩ (.slice (some ⟨gB, 0, none⟩) (zs.length - i) cb)).cell? ⟨bb, 0, none⟩ = some (.bool false) := HCAB.out.cell (by show bb ≠ g + 1 + 1; omega) n0a
              have n0b : ((U5.setCell ⟨g + 1 + 1, 0, none⟩ (.bool false)).setCell ⟨g + 1 + 1, 1, none⟩ (.slice (some ⟨gB, 0, none⟩) (zs.length - i) cb)).cell? ⟨bb, 0, none⟩ = some (.bool false) := HCB.out.cell (by show bb ≠ g + 1 + 1; omega) n0
              have n0ba : ((((U5.setCell ⟨g + 1 + 1, 0, none⟩ (.bool false)).setCell ⟨g + 1 + 1, 1, none⟩ (.slice (some ⟨gB, 0, none⟩) (zs.length - i) cb)).setCell ⟨g + 1, 0, none⟩ (.bool false)).setCell ⟨g + 1, 1, none⟩ (.slice (some ⟨gA, 0, none⟩) i ca)).cell? ⟨bb, 0, none⟩ = some (.bool false) := HCBA.out.cell (by show bb ≠ g + 1; omega) n0b
              have n1 : U5.cell? ⟨bb, 1, none⟩ = some (.slice (some ⟨gB, 0, none⟩) (zs.length - i) cb) := row_cell HX3.out.b 1 _ rfl
              have n1a : ((U5.setCell ⟨g + 1, 0, none⟩ (.bool false)).setCell ⟨g + 1, 1, none⟩ (.slice (some ⟨gA, 0, none⟩) i ca)).cell? ⟨bb, 1, none⟩ = some (.slice (some ⟨gB, 0, none⟩) (zs.length - i) cb) := HCA.out.cell (by show bb ≠ g + 1; omega) n1
              have n1ab : ((((U5.setCell ⟨g + 1, 0, none⟩ (.bool false)).setCell ⟨g + 1, 1, none⟩ (.slice (some ⟨gA, 0, none⟩) i ca)).setCell ⟨g + 1 + 1, 0, none⟩ (.bool false)).setCell ⟨g + 1 + 1, 1, none⟩ (.slice (some ⟨gB, 0, none⟩) (zs.length - i) cb)).cell? ⟨bb, 1, none⟩ = some (.slice (some ⟨gB, 0, none⟩) (zs.length - i) cb) := HCAB.out.cell (by show bb ≠ g + 1 + 1; omega) n1a
              have n1b : ((U5.setCell ⟨g + 1 + 1, 0, none⟩ (.bool false)).setCell ⟨g + 1 + 1, 1, none⟩ (.slice (some ⟨gB, 0, none⟩) (zs.length - i) cb)).cell? ⟨bb, 1, none⟩ = some (.slice (some ⟨gB, 0, none⟩) (zs.length - i) cb) := HCB.out.cell (by show bb ≠ g + 1 + 1; omega) n1
              have n1ba : ((((U5.setCell ⟨g + 1 + 1, 0, none⟩ (.bool false)).setCell ⟨g + 1 + 1, 1, none⟩ (.slice (some ⟨gB, 0, none⟩) (zs.length - i) cb)).setCell ⟨g + 1, 0, none⟩ (.bool false)).setCell ⟨g + 1, 1, none⟩ (.slice (some ⟨gA, 0, none⟩) i ca)).cell? ⟨bb, 1, none⟩ = some (.slice (some ⟨gB, 0, none⟩) (zs.length - i) cb) := HCBA.out.cell (by show bb ≠ g + 1; omega) n1b
              have p0 : U5.cell? ⟨g + 1, 0, none⟩ = some (.bool false) := row_cell HX3.out.q.r1 0 _ rfl
              have fp0 := frozen_of_row _ _ 0 _ _ HX3.out.q.r1
              have p0b : ((U5.setCell ⟨g + 1 + 1, 0, none⟩ (.bool false)).setCell ⟨g + 1 + 1, 1, none⟩ (.slice (some ⟨gB, 0, none⟩) (zs.length - i) cb)).cell? ⟨g + 1, 0, none⟩ = some (.bool false) := HCB.out.cell (by show g + 1 ≠ g + 1 + 1; omega) p0
              have fp0b : ((U5.setCell ⟨g + 1 + 1, 0, none⟩ (.bool false)).setCell ⟨g + 1 + 1, 1, none⟩ (.slice (some ⟨gB, 0, none⟩) (zs.length - i) cb)).frozen? ⟨g + 1, 0, none⟩ = false := (HCB.out.frozen (by show g + 1 ≠ g + 1 + 1; omega) (lt_of_row HX3.out.q.r1)).trans fp0
              have p1 : U5.cell? ⟨g + 1, 1, none⟩ = some (.slice none 0 0) := row_cell HX3.out.q.r1 1 _ rfl
              have fp1 := frozen_of_row _ _ 1 _ _ HX3.out.q.r1
              have p1b : ((U5.setCell ⟨g + 1 + 1, 0, none⟩ (.bool false)).setCell ⟨g + 1 + 1, 1, none⟩ (.slice (some ⟨gB, 0, none⟩) (zs.length - i) cb)).cell? ⟨g + 1, 1, none⟩ = some (.slice none 0 0) := HCB.out.cell (by show g + 1 ≠ g + 1 + 1; omega) p1
              have fp1b : ((U5.setCell ⟨g + 1 + 1, 0, none⟩ (.bool false)).setCell ⟨g + 1 + 1, 1, none⟩ (.slice (some ⟨gB, 0, none⟩) (zs.length - i) cb)).frozen? ⟨g + 1, 1, none⟩ = false := (HCB.out.frozen (by show g + 1 ≠ g + 1 + 1; omega) (lt_of_row HX3.out.q.r1)).trans fp1
              have q0 : U5.cell? ⟨g + 1 + 1, 0, none⟩ = some (.bool false) := row_cell HX3.out.q.r2 0 _ rfl
              have fq0 := frozen_of_row _ _ 0 _ _ HX3.out.q.r2
              have q0a : ((U5.setCell ⟨g + 1, 0, none⟩ (.bool false)).setCell ⟨g + 1, 1, none⟩ (.slice (some ⟨gA, 0, none⟩) i ca)).cell? ⟨g + 1 + 1, 0, none⟩ = some (.bool false) := HCA.out.cell (by show g + 1 + 1 ≠ g + 1; omega) q0
              have fq0a : ((U5.setCell ⟨g + 1, 0, none⟩ (.bool false)).setCell ⟨g + 1, 1, none⟩ (.slice (some ⟨gA, 0, none⟩) i ca)).frozen? ⟨g + 1 + 1, 0, none⟩ = false := (HCA.out.frozen (by show g + 1 + 1 ≠ g + 1; omega) (lt_of_row HX3.out.q.r2)).trans fq0
              have q1 : U5.cell? ⟨g + 1 + 1, 1, none⟩ = some (.slice none 0 0) := row_cell HX3.out.q.r2 1 _ rfl
              have fq1 := frozen_of_row _ _ 1 _ _ HX3.out.q.r2
              have q1a : ((U5.setCell ⟨g + 1, 0, none⟩ (.bool false)).setCell ⟨g + 1, 1, none⟩ (.slice (some ⟨gA, 0, none⟩) i ca)).cell? ⟨g + 1 + 1, 1, none⟩ = some (.slice none 0 0) := HCA.out.cell (by show g + 1 + 1 ≠ g + 1; omega) q1
              have fq1a : ((U5.setCell ⟨g + 1, 0, none⟩ (.bool false)).setCell ⟨g + 1, 1, none⟩ (.slice (some ⟨gA, 0, none⟩) i ca)).frozen? ⟨g + 1 + 1, 1, none⟩ = false := (HCA.out.frozen (by show g + 1 + 1 ≠ g + 1; omega) (lt_of_row HX3.out.q.r2)).trans fq1
              clear HCA HCB HCAB HCBA
              clear hla hlb
              go_wp2
              go_region
              go_wp2
              have HE := Lib.hid (HX3.out.q.end1 (.bool false) (.slice (some ⟨gA, 0, none⟩) i ca) (.bool false) (.slice (some ⟨gB, 0, none⟩) (zs.length - i) cb))
              have hla := HX3.out.la
              have hlb := HX3.out.lb
              have hBA := HBA.out
              have hAB := HAB.out
              refine bodyPost_ret (results_c_t_c rfl _ _ (g + 1) (g + 1 + 1) _ _ #[.bool false, .slice (some ⟨gA, 0, none⟩) i ca] #[.bool false, .slice (some ⟨gB, 0, none⟩) (zs.length - i) cb] (0, 0) (0, 0) (.struct _) (.struct _) rfl HE.out.2.1 Try.underlying32 rfl (by kernel_rfl) rfl HE.out.2.2 Try.underlying32 rfl (by kernel_rfl)) rfl ⟨_, _, rfl, ⟨some ⟨gA, 0, none⟩, ca, by rw [HEA.out], (own_end2 HOA4.out (by omega) _ _ _ _).slice ceCell_len, HOA4.out.cap_le.1, HOA4.out.cap_le.2⟩, ⟨some ⟨gB, 0, none⟩, cb, by rw [HLEN.out]; rfl, (own_end2 HOB3.out (by omega) _ _ _ _).slice ceCell_len, HOB3.out.cap_le.1, HOB3.out.cap_le.2⟩, HE.out.1⟩
            · go_wp2
              go_still_tail 6, (by kernel_rfl)
              change wpList _ _ _ _ _ U3.drew
              go_wp2_with (at_builtin; refine wpList_append_lies _ rfl _ _ 22 rfl U3.heap.size 59 ii _ 4 40 Try.underlying22 hii hz0 hz1 hz2 rfl (by omega) (.slice none 0 0) 0 (([] : List Ce).flatMap ceCell) rfl (Own.nil _ _ _ _ _) ⟨a, off + i * 4, none⟩ (zs.length - i) (cap - i) ((y0 :: yt).flatMap ceCell) rfl (HLB.out) (fun j u hu => (HSB.out _ HX1.out.q.gr.drew).news ceCell_len j u hu) (cells_one ceCell_one (y0 :: yt)) (by omega) (by unfold maxLen; omega) (by omega) (Nat.le_refl _) _ rfl ?_; intro gB cb vB hown hgrow hat hlt5; have HXB := Lib.hid ((HX1.out.step (Gr.refl U3).drew).step ((Own.nil U3.drew U3.drew.heap.size 59 4 ceCell).grown hgrow (Gr.refl _) (Nat.le_refl _))); have HOB : Hid (Own vB U3.heap.size 59 4 ceCell (some ⟨gB, 0, none⟩) cb ([] ++ (y0 :: yt))) := Own.app (by rw [HEB.out]; exact hown); have cB := row_cell HXB.out.b 1 _ rfl; have fB := frozen_of_row _ _ 1 _ _ HXB.out.b; have HOA2 := Lib.hid (HOA1.out.gr ((Gr.refl U3).drew.trans ((Own.nil U3.drew U3.drew.heap.size 59 4 ceCell).grown hgrow (Gr.refl _) (Nat.le_refl _)))); obtain ⟨cur, hrow⟩ := HOB.out.row; have fkB := frozen_of_row _ _ 0 _ _ hrow; obtain ⟨q, hq, hq1, hq2, hqc⟩ := HOB.out.head ceCell_len; cases hq; have kB : vB.cell? ⟨gB, 0, none⟩ = some (.string y0.1) := hqc 0 _ rfl; have hgbb : gB ≠ bb := (by have := lt_of_row HX1.out.b; omega); have hggb : g ≠ bb := (by have := HX1.out.lb; omega); have C4 := Lib.hid ((Ch.refl bb vB).setCell 1 (.slice (some ⟨gB, 0, none⟩) (zs.length - i) cb)); have kB4 : (vB.setCell ⟨bb, 1, none⟩ (.slice (some ⟨gB, 0, none⟩) (zs.length - i) cb)).cell? ⟨gB, 0, none⟩ = some (.string y0.1) := C4.out.cell hgbb kB; have fkB4 : (vB.setCell ⟨bb, 1, none⟩ (.slice (some ⟨gB, 0, none⟩) (zs.length - i) cb)).frozen? ⟨gB, 0, none⟩ = false := (C4.out.frozen hgbb hlt5).trans fkB; have nB4 : (vB.setCell ⟨bb, 1, none⟩ (.slice (some ⟨gB, 0, none⟩) (zs.length - i) cb)).cell? ⟨g, 0, none⟩ = some (.bool true) := C4.out.cell hggb (row_cell HXB.out.q.n 0 _ rfl); have HGB := Lib.hid hq1; clear hrow hq1 hq2 hqc; clear hown hgrow hat)
              have HX2 := Lib.hid (HXB.out.putB 1 (.slice (some ⟨gB, 0, none⟩) (zs.length - i) cb))
              have HObb : Hid (Own (vB.setCell ⟨bb, 1, none⟩ (.slice (some ⟨gB, 0, none⟩) (zs.length - i) cb)) U3.heap.size 59 4 ceCell (some ⟨gB, 0, none⟩) cb (y0 :: yt)) := HOB.out.ch ((Ch.refl bb vB).setCell 1 _) (fun e => by cases e; exact absurd rfl hgbb)
              have HOA3 : Hid (Own (vB.setCell ⟨bb, 1, none⟩ (.slice (some ⟨gB, 0, none⟩) (zs.length - i) cb)) U.heap.size 59 4 ceCell (some ⟨gA, 0, none⟩) ca ya) := HOA2.out.ch ((Ch.refl bb vB).setCell 1 _) (fun e => by have := (HOA2.out.lt e).2; have := HBA.out.2; omega)
              have HAB : Hid (gA < U3.heap.size ∧ U3.heap.size ≤ gB ∧ bb < U3.heap.size ∧ ba < U3.heap.size) := ⟨(HOA1.out.lt rfl).1, HGB.out, lt_of_row HX1.out.b, lt_of_row HX1.out.a⟩
              generalize vB.setCell ⟨bb, 1, none⟩ (.slice (some ⟨gB, 0, none⟩) (zs.length - i) cb) = U4 at *
              clear HXB HOB cB fB HX1 HOA1 HOA2 n1 b1 kB fkB kB4 fkB4 nB4 C4 hlt5
              have hla := HX2.out.la
              have hlb := HX2.out.lb
              have HCA := Lib.hid (((Ch.refl (g + 1) U4).setCell 0 (.bool true)).setCell 1 (.slice (some ⟨gA, 0, none⟩) i ca))
              have HCB := Lib.hid (((Ch.refl (g + 1 + 1) U4).setCell 0 (.bool true)).setCell 1 (.slice (some ⟨gB, 0, none⟩) (zs.length - i) cb))
              have HCAB := Lib.hid (((Ch.refl (g + 1 + 1) ((U4.setCell ⟨g + 1, 0, none⟩ (.bool true)).setCell ⟨g + 1, 1, none⟩ (.slice (some ⟨gA, 0, none⟩) i ca))).setCell 0 (.bool true)).setCell 1 (.slice (some ⟨gB, 0, none⟩) (zs.length - i) cb))
              have HCBA := Lib.hid (((Ch.refl (g + 1) ((U4.setCell ⟨g + 1 + 1, 0, none⟩ (.bool true)).setCell ⟨g + 1 + 1, 1, none⟩ (.slice (some ⟨gB, 0, none⟩) (zs.length - i) cb))).setCell 0 (.bool true)).setCell 1 (.slice (some ⟨gA, 0, none⟩) i ca))
              have m0 : U4.cell? ⟨ba, 0, none⟩ = some (.bool true) := row_cell HX2.out.a 0 _ rfl
              have m0a : ((U4.setCell ⟨g + 1, 0, none⟩ (.bool true)).setCell ⟨g + 1, 1, none⟩ (.slice (some ⟨gA, 0, none⟩) i ca)).cell? ⟨ba, 0, none⟩ = some (.bool true) := HCA.out.cell (by show ba ≠ g + 1; omega) m0
              have m0ab : ((((U4.setCell ⟨g + 1, 0, none⟩ (.bool true)).setCell ⟨g + 1, 1, none⟩ (.slice (some ⟨gA, 0, none⟩) i ca)).setCell ⟨g + 1 + 1, 0, none⟩ (.bool true)).setCell ⟨g + 1 + 1, 1, none⟩ (.slice (some ⟨gB, 0, none⟩) (zs.length - i) cb)).cell? ⟨ba, 0, none⟩ = some (.bool true) := HCAB.out.cell (by show ba ≠ g + 1 + 1; omega) m0a
              have m0b : ((U4.setCell ⟨g + 1 + 1, 0, none⟩ (.bool true)).setCell ⟨g + 1 + 1, 1, none⟩ (.slice (some ⟨gB, 0, none⟩) (zs.length - i) cb)).cell? ⟨ba, 0, none⟩ = some (.bool true) := HCB.out.cell (by show ba ≠ g + 1 + 1; omega) m0
              have m0ba : ((((U4.setCell ⟨g + 1 + 1, 0, none⟩ (.bool true)).setCell ⟨g + 1 + 1, 1, none⟩ (.slice (some ⟨gB, 0, none⟩) (zs.length - i) cb)).setCell ⟨g + 1, 0, none⟩ (.bool true)).setCell ⟨g + 1, 1, none⟩ (.slice (some ⟨gA, 0, none⟩) i ca)).cell? ⟨ba, 0, none⟩ = some (.bool true) := HCBA.out.cell (by show ba ≠ g + 1; omega) m0b
              have m1 : U4.cell? ⟨ba, 1, none⟩ = some (.slice (some ⟨gA, 0, none⟩) i ca) := row_cell HX2.out.a 1 _ rfl
              have m1a : ((U4.setCell ⟨g + 1, 0, none⟩ (.bool true)).setCell ⟨g + 1, 1, none⟩ (.slice (some ⟨gA, 0, none⟩) i ca)).cell? ⟨ba, 1, none⟩ = some (.slice (some ⟨gA, 0, none⟩) i ca) := HCA.out.cell (by show ba ≠ g + 1; omega) m1
              have m1ab : ((((U4.setCell ⟨g + 1, 0, none⟩ (.bool true)).setCell ⟨g + 1, 1, none⟩ (.slice (some ⟨gA, 0, none⟩) i ca)).setCell ⟨g + 1 + 1, 0, none⟩ (.bool true)).setCell ⟨g + 1 + 1, 1, none⟩ (.slice (some ⟨gB, 0, none⟩) (zs.length - i) cb)).cell? ⟨ba, 1, none⟩ = some (.slice (some ⟨gA, 0, none⟩) i ca) := HCAB.out.cell (by show ba ≠ g + 1 + 1; omega) m1a
              have m1b : ((U4.setCell ⟨g + 1 + 1, 0, none⟩ (.bool true)).setCell ⟨g + 1 + 1, 1, none⟩ (.slice (some ⟨gB, 0, none⟩) (zs.length - i) cb)).cell? ⟨ba, 1, none⟩ = some (.slice (some ⟨gA, 0, none⟩) i ca) := HCB.out.cell (by show ba ≠ g + 1 + 1; omega) m1
              have m1ba : ((((U4.setCell ⟨g + 1 + 1, 0, none⟩ (.bool true)).setCell ⟨g + 1 + 1, 1, none⟩ (.slice (some ⟨gB, 0, none⟩) (zs.length - i) cb)).setCell ⟨g + 1, 0, none⟩ (.bool true)).setCell ⟨g + 1, 1, none⟩ (.slice (some ⟨gA, 0, none⟩) i ca)).cell? ⟨ba, 1, none⟩ = some (.slice (some ⟨gA, 0, none⟩) i ca) := HCBA.out.cell (by show ba ≠ g + 1; omega) m1b
              have n0 : U4.cell? ⟨bb, 0, none⟩ = some (.bool true) := row_cell HX2.out.b 0 _ rfl
              have n0a : ((U4.setCell ⟨g + 1, 0, none⟩ (.bool true)).setCell ⟨g + 1, 1, none⟩ (.slice (some ⟨gA, 0, none⟩) i ca)).cell? ⟨bb, 0, none⟩ = some (.bool true) := HCA.out.cell (by show bb ≠ g + 1; omega) n0
              have n0ab : ((((U4.setCell ⟨g + 1, 0, none⟩ (.bool true)).setCell ⟨g + 1, 1, none⟩ (.slice (some ⟨gA, 0, none⟩) i ca)).setCell ⟨g + 1 + 1, 0, none⟩ (.bool true)).setCell ⟨g + 1 + 1, 1, none⟩ (.slice (some ⟨gB, 0, none⟩) (zs.length - i) cb)).cell? ⟨bb, 0, none⟩ = some (.bool true) := HCAB.out.cell (by show bb ≠ g + 1 + 1; omega) n0a
              have n0b : ((U4.setCell ⟨g + 1 + 1, 0, none⟩ (.bool true)).setCell ⟨g + 1 + 1, 1, none⟩ (.slice (some ⟨gB, 0, none⟩) (zs.length - i) cb)).cell? ⟨bb, 0, none⟩ = some (.bool true) := HCB.out.cell (by show bb ≠ g + 1 + 1; omega) n0
              have n0ba : ((((U4.setCell ⟨g + 1 + 1, 0, none⟩ (.bool true)).setCell ⟨g + 1 + 1, 1, none⟩ (.slice (some ⟨gB, 0, none⟩) (zs.length - i) cb)).setCell ⟨g + 1, 0, none⟩ (.bool true)).setCell ⟨g + 1, 1, none⟩ (.slice (some ⟨gA, 0, none⟩) i ca)).cell? ⟨bb, 0, none⟩ = some (.bool true) := HCBA.out.cell (by show bb ≠ g + 1; omega) n0b
              have n1 : U4.cell? ⟨bb, 1, none⟩ = some (.slice (some ⟨gB, 0, none⟩) (zs.length - i) cb) := row_cell HX2.out.b 1 _ rfl
              have n1a : ((U4.setCell ⟨g + 1, 0, none⟩ (.bool true)).setCell ⟨g + 1, 1, none⟩ (.slice (some ⟨gA, 0, none⟩) i ca)).cell? ⟨bb, 1, none⟩ = some (.slice (some ⟨gB, 0, none⟩) (zs.length - i) cb) := HCA.out.cell (by show bb ≠ g + 1; omega) n1
              have n1ab : ((((U4.setCell ⟨g + 1, 0, none⟩ (.bool true)).setCell ⟨g + 1, 1, none⟩ (.slice (some ⟨gA, 0, none⟩) i ca)).setCell ⟨g + 1 + 1, 0, none⟩ (.bool true)).setCell ⟨g + 1 + 1, 1, none⟩ (.slice (some ⟨gB, 0, none⟩) (zs.length - i) cb)).cell? ⟨bb, 1, none⟩ = some (.slice (some ⟨gB, 0, none⟩) (zs.length - i) cb) := HCAB.out.cell (by show bb ≠ g + 1 + 1; omega) n1a
              have n1b : ((U4.setCell ⟨g + 1 + 1, 0, none⟩ (.bool true)).setCell ⟨g + 1 + 1, 1, none⟩ (.slice (some ⟨gB, 0, none⟩) (zs.length - i) cb)).cell? ⟨bb, 1, none⟩ = some (.slice (some ⟨gB, 0, none⟩) (zs.length - i) cb) := HCB.out.cell (by show bb ≠ g + 1 + 1; omega) n1
              have n1ba : ((((U4.setCell ⟨g + 1 + 1, 0, none⟩ (.bool true)).setCell ⟨g + 1 + 1, 1, none⟩ (.slice (some ⟨gB, 0, none⟩) (zs.length - i) cb)).setCell ⟨g + 1, 0, none⟩ (.bool true)).setCell ⟨g + 1, 1, none⟩ (.slice (some ⟨gA, 0, none⟩) i ca)).cell? ⟨bb, 1, none⟩ = some (.slice (some ⟨gB, 0, none⟩) (zs.length - i) cb) := HCBA.out.cell (by show bb ≠ g + 1; omega) n1b
              have p0 : U4.cell? ⟨g + 1, 0, none⟩ = some (.bool false) := row_cell HX2.out.q.r1 0 _ rfl
              have fp0 := frozen_of_row _ _ 0 _ _ HX2.out.q.r1
              have p0b : ((U4.setCell ⟨g + 1 + 1, 0, none⟩ (.bool true)).setCell ⟨g + 1 + 1, 1, none⟩ (.slice (some ⟨gB, 0, none⟩) (zs.length - i) cb)).cell? ⟨g + 1, 0, none⟩ = some (.bool false) := HCB.out.cell (by show g + 1 ≠ g + 1 + 1; omega) p0
              have fp0b : ((U4.setCell ⟨g + 1 + 1, 0, none⟩ (.bool true)).setCell ⟨g + 1 + 1, 1, none⟩ (.slice (some ⟨gB, 0, none⟩) (zs.length - i) cb)).frozen? ⟨g + 1, 0, none⟩ = false := (HCB.out.frozen (by show g + 1 ≠ g + 1 + 1; omega) (lt_of_row HX2.out.q.r1)).trans fp0
              have p1 : U4.cell? ⟨g + 1, 1, none⟩ = some (.slice none 0 0) := row_cell HX2.out.q.r1 1 _ rfl
              have fp1 := frozen_of_row _ _ 1 _ _ HX2.out.q.r1
              have p1b : ((U4.setCell ⟨g + 1 + 1, 0, none⟩ (.bool true)).setCell ⟨g + 1 + 1, 1, none⟩ (.slice (some ⟨gB, 0, none⟩) (zs.length - i) cb)).cell? ⟨g + 1, 1, none⟩ = some (.slice none 0 0) := HCB.out.cell (by show g + 1 ≠ g + 1 + 1; omega) p1
              have fp1b : ((U4.setCell ⟨g + 1 + 1, 0, none⟩ (.bool true)).setCell ⟨g + 1 + 1, 1, none⟩ (.slice (some ⟨gB, 0, none⟩) (zs.length - i) cb)).frozen? ⟨g + 1, 1, none⟩ = false := (HCB.out.frozen (by show g + 1 ≠ g + 1 + 1; omega) (lt_of_row HX2.out.q.r1)).trans fp1
              have q0 : U4.cell? ⟨g + 1 + 1, 0, none⟩ = some (.bool false) := row_cell HX2.out.q.r2 0 _ rfl
              have fq0 := frozen_of_row _ _ 0 _ _ HX2.out.q.r2
              have q0a : ((U4.setCell ⟨g + 1, 0, none⟩ (.bool true)).setCell ⟨g + 1, 1, none⟩ (.slice (some ⟨gA, 0, none⟩) i ca)).cell? ⟨g + 1 + 1, 0, none⟩ = some (.bool false) := HCA.out.cell (by show g + 1 + 1 ≠ g + 1; omega) q0
              have fq0a : ((U4.setCell ⟨g + 1, 0, none⟩ (.bool true)).setCell ⟨g + 1, 1, none⟩ (.slice (some ⟨gA, 0, none⟩) i ca)).frozen? ⟨g + 1 + 1, 0, none⟩ = false := (HCA.out.frozen (by show g + 1 + 1 ≠ g + 1; omega) (lt_of_row HX2.out.q.r2)).trans fq0
              have q1 : U4.cell? ⟨g + 1 + 1, 1, none⟩ = some (.slice none 0 0) := row_cell HX2.out.q.r2 1 _ rfl
              have fq1 := frozen_of_row _ _ 1 _ _ HX2.out.q.r2
              have q1a : ((U4.setCell ⟨g + 1, 0, none⟩ (.bool true)).setCell ⟨g + 1, 1, none⟩ (.slice (some ⟨gA, 0, none⟩) i ca)).cell? ⟨g + 1 + 1, 1, none⟩ = some (.slice none 0 0) := HCA.out.cell (by show g + 1 + 1 ≠ g + 1; omega) q1
              have fq1a : ((U4.setCell ⟨g + 1, 0, none⟩ (.bool true)).setCell ⟨g + 1, 1, none⟩ (.slice (some ⟨gA, 0, none⟩) i ca)).frozen? ⟨g + 1 + 1, 1, none⟩ = false := (HCA.out.frozen (by show g + 1 + 1 ≠ g + 1; omega) (lt_of_row HX2.out.q.r2)).trans fq1
              clear HCA HCB HCAB HCBA
              clear hla hlb
              go_wp2
              go_region
              go_wp2
              have HE := Lib.hid (HX2.out.q.end1 (.bool true) (.slice (some ⟨gA, 0, none⟩) i ca) (.bool true) (.slice (some ⟨gB, 0, none⟩) (zs.length - i) cb))
              have hla := HX2.out.la
              have hlb := HX2.out.lb
              have hBA := HBA.out
              have hAB := HAB.out
              refine bodyPost_ret (results_c_t_c rfl _ _ (g + 1) (g + 1 + 1) _ _ #[.bool true, .slice (some ⟨gA, 0, none⟩) i ca] #[.bool true, .slice (some ⟨gB, 0, none⟩) (zs.length - i) cb] (0, 0) (0, 0) (.struct _) (.struct _) rfl HE.out.2.1 Try.underlying32 rfl (by kernel_rfl) rfl HE.out.2.2 Try.underlying32 rfl (by kernel_rfl)) rfl ⟨_, _, rfl, ⟨some ⟨gA, 0, none⟩, ca, by rw [HEA.out], (own_end2 HOA3.out (by omega) _ _ _ _).slice ceCell_len, HOA3.out.cap_le.1, HOA3.out.cap_le.2⟩, ⟨some ⟨gB, 0, none⟩, cb, by rw [HLEN.out]; rfl, (own_end2 HObb.out (by omega) _ _ _ _).slice ceCell_len, HObb.out.cap_le.1, HObb.out.cap_le.2⟩, HE.out.1⟩
        · have HX0 : Hid (SqX w ((V.alloc (.cells #[.bool leaf, .slice none 0 0] 32)).alloc (.cells #[.bool leaf, .slice none 0 0] 32)).drew g (V.heap.size + 1) (V.heap.size) #[.bool leaf, .slice (some ⟨a, off, none⟩) zs.length cap] #[.bool false, .slice none 0 0] #[.bool false, .slice none 0 0] #[.bool leaf, .slice none 0 0] #[.bool leaf, .slice none 0 0]) := (SqX.new HR.out).2
          clear x0 x1 x0_0 HW0 x0_1 HW1 x0_2 HW2 x0_3 HW3 x0_4 HW4 HR
          generalize ((V.alloc (.cells #[.bool leaf, .slice none 0 0] 32)).alloc (.cells #[.bool leaf, .slice none 0 0] 32)).drew = U at *
          generalize V.heap.size + 1 = ba at *
          generalize V.heap.size = bb at *
          have HLA : Hid ((ya.flatMap ceCell).length = i * 4) := by unfold Hid; rw [cells_len 4 ceCell_len, HYL.out.1]
          have HEA : Hid (ya.length = i) := HYL.out.1
          have HLB : Hid ((yb.flatMap ceCell).length = (zs.length - i) * 4) := by unfold Hid; rw [cells_len 4 ceCell_len, HYL.out.2.1]
          have HEB : Hid (yb.length = zs.length - i) := HYL.out.2.1
          have n1 : U.cell? ⟨g, 1, none⟩ = some (.slice (some ⟨a, off, none⟩) zs.length cap) := row_cell HX0.out.q.n 1 _ rfl
          have a1 := row_cell HX0.out.a 1 _ rfl
          have fa1 := frozen_of_row _ _ 1 _ _ HX0.out.a
          have hga : g ≠ ba := by have := HX0.out.la; omega
          have hgb : g ≠ bb := by have := HX0.out.lb; omega
          have a1d : U.drew.cell? ⟨ba, 1, none⟩ = some (.slice none 0 0) := a1
          go_wp2
          go_still_tail 6, (by kernel_rfl)
          change wpList _ _ _ _ _ U.drew
          go_wp2_with (at_builtin; refine wpList_append_lies _ rfl _ _ 22 rfl U.heap.size 59 ii _ 4 40 Try.underlying22 hii hz0 hz1 hz2 rfl (by omega) (.slice none 0 0) 0 (([] : List Ce).flatMap ceCell) rfl (Own.nil _ _ _ _ _) ⟨a, off, none⟩ i cap (ya.flatMap ceCell) rfl (HLA.out) (fun j u hu => (HSA.out _ HX0.out.q.gr.drew).news ceCell_len j u hu) (cells_one ceCell_one ya) (by omega) (by unfold maxLen; omega) (by omega) (Nat.le_refl _) _ rfl ?_; intro gA ca vA hown hgrow hat hlt5; have HXA := Lib.hid ((HX0.out.step (Gr.refl U).drew).step ((Own.nil U.drew U.drew.heap.size 59 4 ceCell).grown hgrow (Gr.refl _) (Nat.le_refl _))); have HOA : Hid (Own vA U.heap.size 59 4 ceCell (some ⟨gA, 0, none⟩) ca ([] ++ ya)) := Own.app (by rw [HEA.out]; exact hown); have cA := row_cell HXA.out.a 1 _ rfl; have fA := frozen_of_row _ _ 1 _ _ HXA.out.a;  clear hown hgrow hat)
          have HX1 := Lib.hid (HXA.out.putA 1 (.slice (some ⟨gA, 0, none⟩) i ca))
          have HOA1 : Hid (Own (vA.setCell ⟨ba, 1, none⟩ (.slice (some ⟨gA, 0, none⟩) i ca)) U.heap.size 59 4 ceCell (some ⟨gA, 0, none⟩) ca ya) := HOA.out.ch ((Ch.refl ba vA).setCell 1 _) (fun e => by have := (HOA.out.lt e).2; have := lt_of_row HX0.out.a; omega)
          have HBA : Hid (ba < U.heap.size ∧ bb < U.heap.size) := ⟨lt_of_row HX0.out.a, lt_of_row HX0.out.b⟩
          generalize vA.setCell ⟨ba, 1, none⟩ (.slice (some ⟨gA, 0, none⟩) i ca) = U3 at *
          have n1 : U3.cell? ⟨g, 1, none⟩ = some (.slice (some ⟨a, off, none⟩) zs.length cap) := row_cell HX1.out.q.n 1 _ rfl
          have b1 := row_cell HX1.out.b 1 _ rfl
          clear a1 fa1 a1d HXA HOA cA fA HX0
          have hy0 : 0 < yb.length := by have h1 := HYL.out; omega
          cases yb with
          | nil => simp at hy0
          | cons y0 yt =>
            have HLEN : Hid (zs.length - i = (y0 :: yt).length) := HYL.out.2.1.symm
            have hly : zs.length - i ≤ 4000 := by omega
            have hly0 : 0 < zs.length - i := by have h1 := HYL.out; omega
            have hly1 : (0 : Int) < ((zs.length - i : Nat) : Int) := by omega
            clear hy0
            cases leaf
            · go_wp2
              go_still_tail 6, (by kernel_rfl)
              change wpList _ _ _ _ _ U3.drew
              go_wp2_with (at_builtin; refine wpList_append_lies _ rfl _ _ 22 rfl U3.heap.size 59 ii _ 4 40 Try.underlying22 hii hz0 hz1 hz2 rfl (by omega) (.slice none 0 0) 0 (([] : List Ce).flatMap ceCell) rfl (Own.nil _ _ _ _ _) ⟨a, off + i * 4, none⟩ (zs.length - i) (cap - i) ((y0 :: yt).flatMap ceCell) rfl (HLB.out) (fun j u hu => (HSB.out _ HX1.out.q.gr.drew).news ceCell_len j u hu) (cells_one ceCell_one (y0 :: yt)) (by omega) (by unfold maxLen; omega) (by omega) (Nat.le_refl _) _ rfl ?_; intro gB cb vB hown hgrow hat hlt5; have HXB := Lib.hid ((HX1.out.step (Gr.refl U3).drew).step ((Own.nil U3.drew U3.drew.heap.size 59 4 ceCell).grown hgrow (Gr.refl _) (Nat.le_refl _))); have HOB : Hid (Own vB U3.heap.size 59 4 ceCell (some ⟨gB, 0, none⟩) cb ([] ++ (y0 :: yt))) := Own.app (by rw [HEB.out]; exact hown); have cB := row_cell HXB.out.b 1 _ rfl; have fB := frozen_of_row _ _ 1 _ _ HXB.out.b; have HOA2 := Lib.hid (HOA1.out.gr ((Gr.refl U3).drew.trans ((Own.nil U3.drew U3.drew.heap.size 59 4 ceCell).grown hgrow (Gr.refl _) (Nat.le_refl _)))); obtain ⟨cur, hrow⟩ := HOB.out.row; have fkB := frozen_of_row _ _ 0 _ _ hrow; obtain ⟨q, hq, hq1, hq2, hqc⟩ := HOB.out.head ceCell_len; cases hq; have kB : vB.cell? ⟨gB, 0, none⟩ = some (.string y0.1) := hqc 0 _ rfl; have hgbb : gB ≠ bb := (by have := lt_of_row HX1.out.b; omega); have hggb : g ≠ bb := (by have := HX1.out.lb; omega); have C4 := Lib.hid ((Ch.refl bb vB).setCell 1 (.slice (some ⟨gB, 0, none⟩) (zs.length - i) cb)); have kB4 : (vB.setCell ⟨bb, 1, none⟩ (.slice (some ⟨gB, 0, none⟩) (zs.length - i) cb)).cell? ⟨gB, 0, none⟩ = some (.string y0.1) := C4.out.cell hgbb kB; have fkB4 : (vB.setCell ⟨bb, 1, none⟩ (.slice (some ⟨gB, 0, none⟩) (zs.length - i) cb)).frozen? ⟨gB, 0, none⟩ = false := (C4.out.frozen hgbb hlt5).trans fkB; have nB4 : (vB.setCell ⟨bb, 1, none⟩ (.slice (some ⟨gB, 0, none⟩) (zs.length - i) cb)).cell? ⟨g, 0, none⟩ = some (.bool false) := C4.out.cell hggb (row_cell HXB.out.q.n 0 _ rfl); have HGB := Lib.hid hq1; clear hrow hq1 hq2 hqc; clear hown hgrow hat)
              have HX2 := Lib.hid (HXB.out.putB 1 (.slice (some ⟨gB, 0, none⟩) (zs.length - i) cb))
              have HOba : Hid (Own (vB.setCell ⟨bb, 1, none⟩ (.slice (some ⟨gB, 0, none⟩) (zs.length - i) cb)) U3.heap.size 59 4 ceCell (some ⟨gB, 0, none⟩) cb (y0 :: yt)) := HOB.out.ch ((Ch.refl bb vB).setCell 1 _) (fun e => by cases e; exact absurd rfl hgbb)
              have HOA3 : Hid (Own (vB.setCell ⟨bb, 1, none⟩ (.slice (some ⟨gB, 0, none⟩) (zs.length - i) cb)) U.heap.size 59 4 ceCell (some ⟨gA, 0, none⟩) ca ya) := HOA2.out.ch ((Ch.refl bb vB).setCell 1 _) (fun e => by have := (HOA2.out.lt e).2; have := HBA.out.2; omega)
              have HAB : Hid (gA < U3.heap.size ∧ U3.heap.size ≤ gB ∧ bb < U3.heap.size ∧ ba < U3.heap.size) := ⟨(HOA1.out.lt rfl).1, HGB.out, lt_of_row HX1.out.b, lt_of_row HX1.out.a⟩
              generalize vB.setCell ⟨bb, 1, none⟩ (.slice (some ⟨gB, 0, none⟩) (zs.length - i) cb) = U4 at *
              clear HXB HOB cB fB HX1 HOA1 HOA2 n1 b1 kB fkB kB4 fkB4 nB4 C4 hlt5
              have hAB := HAB.out
              have hBA := HBA.out
              have hx2 := HX2.out.lb
              have C5 := Lib.hid ((Ch.refl gB U4).setCell 0 (.string { data := #[] }))
              have HX3 := Lib.hid (HX2.out.far C5.out (by omega) (by omega) (by omega))
              have HOB3 := Lib.hid (HOba.out.set0 (x' := (.empty, y0.2)) (.string { data := #[] }) rfl ceCell_len (by omega))
              have HOA4 := Lib.hid (HOA3.out.ch C5.out (fun e => by have e2 : gA = gB := Option.some.inj e; omega))
              clear hAB hBA C5
              generalize U4.setCell ⟨gB, 0, none⟩ (.string { data := #[] }) = U5 at *
              have hla := HX3.out.la
              have hlb := HX3.out.lb
              have HCA := Lib.hid (((Ch.refl (g + 1) U5).setCell 0 (.bool false)).setCell 1 (.slice (some ⟨gA, 0, none⟩) i ca))
              have HCB := Lib.hid (((Ch.refl (g + 1 + 1) U5).setCell 0 (.bool false)).setCell 1 (.slice (some ⟨gB, 0, none⟩) (zs.length - i) cb))
              have HCAB := Lib.hid (((Ch.refl (g + 1 + 1) ((U5.setCell ⟨g + 1, 0, none⟩ (.bool false)).setCell ⟨g + 1, 1, none⟩ (.slice (some ⟨gA, 0, none⟩) i ca))).setCell 0 (.bool false)).setCell 1 (.slice (some ⟨gB, 0, none⟩) (zs.length - i) cb))
              have HCBA := Lib.hid (((Ch.refl (g + 1) ((U5.setCell ⟨g + 1 + 1, 0, none⟩ (.bool false)).setCell ⟨g + 1 + 1, 1, none⟩ (.slice (some ⟨gB, 0, none⟩) (zs.length - i) cb))).setCell 0 (.bool false)).setCell 1 (.slice (some ⟨gA, 0, none⟩) i ca))
              have m0 : U5.cell? ⟨ba, 0, none⟩ = some (.bool false) := row_cell HX3.out.a 0 _ rfl
              have m0a : ((U5.setCell ⟨g + 1, 0, none⟩ (.bool false)).setCell ⟨g + 1, 1, none⟩ (.slice (some ⟨gA, 0, none⟩) i ca)).cell? ⟨ba, 0, none⟩ = some (.bool false) := HCA.out.cell (by show ba ≠ g + 1; omega) m0
              have m0ab : ((((U5.setCell ⟨g + 1, 0, none⟩ (.bool false)).setCell ⟨g + 1, 1, none⟩ (.slice (some ⟨gA, 0, none⟩) i ca)).setCell ⟨g + 1 + 1, 0, none⟩ (.bool false)).setCell ⟨g + 1 + 1, 1, none⟩ (.slice (some ⟨gB, 0, none⟩) (zs.length - i) cb)).cell? ⟨ba, 0, none⟩ = some (.bool false) := HCAB.out.cell (by show ba ≠ g + 1 + 1; omega) m0a
              have m0b : ((U5.setCell ⟨g + 1 + 1, 0, none⟩ (.bool false)).setCell ⟨g + 1 + 1, 1, none⟩ (.slice (some ⟨gB, 0, none⟩) (zs.length - i) cb)).cell? ⟨ba, 0, none⟩ = some (.bool false) := HCB.out.cell (by show ba ≠ g + 1 + 1; omega) m0
              have m0ba : ((((U5.setCell ⟨g + 1 + 1, 0, none⟩ (.bool false)).setCell ⟨g + 1 + 1, 1, none⟩ (.slice (some ⟨gB, 0, none⟩) (zs.length - i) cb)).setCell ⟨g + 1, 0, none⟩ (.bool false)).setCell ⟨g + 1, 1, none⟩ (.slice (some ⟨gA, 0, none⟩) i ca)).cell? ⟨ba, 0, none⟩ = some (.bool false) := HCBA.out.cell (by show ba ≠ g + 1; omega) m0b
              have m1 : U5.cell? ⟨ba, 1, none⟩ = some (.slice (some ⟨gA, 0, none⟩) i ca) := row_cell HX3.out.a 1 _ rfl
              have m1a : ((U5.setCell ⟨g + 1, 0, none⟩ (.bool false)).setCell ⟨g + 1, 1, none⟩ (.slice (some ⟨gA, 0, none⟩) i ca)).cell? ⟨ba, 1, none⟩ = some (.slice (some ⟨gA, 0, none⟩) i ca) := HCA.out.cell (by show ba ≠ g + 1; omega) m1
              have m1ab : ((((U5.setCell ⟨g + 1, 0, none⟩ (.bool false)).setCell ⟨g + 1, 1, none⟩ (.slice (some ⟨gA, 0, none⟩) i ca)).setCell ⟨g + 1 + 1, 0, none⟩ (.bool false)).setCell ⟨g + 1 + 1, 1, none⟩ (.slice (some ⟨gB, 0, none⟩) (zs.length - i) cb)).cell? ⟨ba, 1, none⟩ = some (.slice (some ⟨gA, 0, none⟩) i ca) := HCAB.out.cell (by show ba ≠ g + 1 + 1; omega) m1a
              have m1b : ((U5.setCell ⟨g + 1 + 1, 0, none⟩ (.bool false)).setCell ⟨g + 1 + 1, 1, none⟩ (.slice (some ⟨gB, 0, none⟩) (zs.length - i) cb)).cell? ⟨ba, 1, none⟩ = some (.slice (some ⟨gA, 0, none⟩) i ca) := HCB.out.cell (by show ba ≠ g + 1 + 1; omega) m1
              have m1ba : ((((U5.setCell ⟨g + 1 + 1, 0, none⟩ (.bool false)).setCell ⟨g + 1 + 1, 1, none⟩ (.slice (some ⟨gB, 0, none⟩) (zs.length - i) cb)).setCell ⟨g + 1, 0, none⟩ (.bool false)).setCell ⟨g + 1, 1, none⟩ (.slice (some ⟨gA, 0, none⟩) i ca)).cell? ⟨ba, 1, none⟩ = some (.slice (some ⟨gA, 0, none⟩) i ca) := HCBA.out.cell (by show ba ≠ g + 1; omega) m1b
              have n0 : U5.cell? ⟨bb, 0, none⟩ = some (.bool false) := row_cell HX3.out.b 0 _ rfl
              have n0a : ((U5.setCell ⟨g + 1, 0, none⟩ (.bool false)).setCell ⟨g + 1, 1, none⟩ (.slice (some ⟨gA, 0, none⟩) i ca)).cell? ⟨bb, 0, none⟩ = some (.bool false) := HCA.out.cell (by show bb ≠ g + 1; omega) n0
              have n0ab : ((((U5.setCell ⟨g + 1, 0, none⟩ (.bool false)).setCell ⟨g + 1, 1, none⟩ (.slice (some ⟨gA, 0, none⟩) i ca)).setCell ⟨g + 1 + 1, 0, none⟩ (.bool false)).setCell ⟨g + 1 + 1, 1, none⟩ (.slice (some ⟨gB, 0, none⟩) (zs.length - i) cb)).cell? ⟨bb, 0, none⟩ = some (.bool false) := HCAB.out.cell (by show bb ≠ g + 1 + 1; omega) n0a
              have n0b : ((U5.setCell ⟨g + 1 + 1, 0, none⟩ (.bool false)).setCell ⟨g + 1 + 1, 1, none⟩ (.slice (some ⟨gB, 0, none⟩) (zs.length - i) cb)).cell? ⟨bb, 0, none⟩ = some (.bool false) := HCB.out.cell (by show bb ≠ g + 1 + 1; omega) n0
              have n0ba : ((((U5.setCell ⟨g + 1 + 1, 0, none⟩ (.bool false)).setCell ⟨g + 1 + 1, 1, none⟩ (.slice (some ⟨gB, 0, none⟩) (zs.length - i) cb)).setCell ⟨g + 1, 0, none⟩ (.bool false)).setCell ⟨g + 1, 1, none⟩ (.slice (some ⟨gA, 0, none⟩) i ca)).cell? ⟨bb, 0, none⟩ = some (.bool false) := HCBA.out.cell (by show bb ≠ g + 1; omega) n0b
              have n1 : U5.cell? ⟨bb, 1, none⟩ = some (.slice (some ⟨gB, 0, none⟩) (zs.length - i) cb) := row_cell HX3.out.b 1 _ rfl
              have n1a : ((U5.setCell ⟨g + 1, 0, none⟩ (.bool false)).setCell ⟨g + 1, 1, none⟩ (.slice (some ⟨gA, 0, none⟩) i ca)).cell? ⟨bb, 1, none⟩ = some (.slice (some ⟨gB, 0, none⟩) (zs.length - i) cb) := HCA.out.cell (by show bb ≠ g + 1; omega) n1
              have n1ab : ((((U5.setCell ⟨g + 1, 0, none⟩ (.bool false)).setCell ⟨g + 1, 1, none⟩ (.slice (some ⟨gA, 0, none⟩) i ca)).setCell ⟨g + 1 + 1, 0, none⟩ (.bool false)).setCell ⟨g + 1 + 1, 1, none⟩ (.slice (some ⟨gB, 0, none⟩) (zs.length - i) cb)).cell? ⟨bb, 1, none⟩ = some (.slice (some ⟨gB, 0, none⟩) (zs.length - i) cb) := HCAB.out.cell (by show bb ≠ g + 1 + 1; omega) n1a
              have n1b : ((U5.setCell ⟨g + 1 + 1, 0, none⟩ (.bool false)).setCell ⟨g + 1 + 1, 1, none⟩ (.slice (some ⟨gB, 0, none⟩) (zs.length - i) cb)).cell? ⟨bb, 1, none⟩ = some (.slice (some ⟨gB, 0, none⟩) (zs.length - i) cb) := HCB.out.cell (by show bb ≠ g + 1 + 1; omega) n1
              have n1ba : ((((U5.setCell ⟨g + 1 + 1, 0, none⟩ (.bool false)).setCell ⟨g + 1 + 1, 1, none⟩ (.slice (some ⟨gB, 0, none⟩) (zs.length - i) cb)).setCell ⟨g + 1, 0, none⟩ (.bool false)).setCell ⟨g + 1, 1, none⟩ (.slice (some ⟨gA, 0, none⟩) i ca)).cell? ⟨bb, 1, none⟩ = some (.slice (some ⟨gB, 0, none⟩) (zs.length - i) cb) := HCBA.out.cell (by show bb ≠ g + 1; omega) n1b
              have p0 : U5.cell? ⟨g + 1, 0, none⟩ = some (.bool false) := row_cell HX3.out.q.r1 0 _ rfl
              have fp0 := frozen_of_row _ _ 0 _ _ HX3.out.q.r1
              have p0b : ((U5.setCell ⟨g + 1 + 1, 0, none⟩ (.bool false)).setCell ⟨g + 1 + 1, 1, none⟩ (.slice (some ⟨gB, 0, none⟩) (zs.length - i) cb)).cell? ⟨g + 1, 0, none⟩ = some (.bool false) := HCB.out.cell (by show g + 1 ≠ g + 1 + 1; omega) p0
              have fp0b : ((U5.setCell ⟨g + 1 + 1, 0, none⟩ (.bool false)).setCell ⟨g + 1 + 1, 1, none⟩ (.slice (some ⟨gB, 0, none⟩) (zs.length - i) cb)).frozen? ⟨g + 1, 0, none⟩ = false := (HCB.out.frozen (by show g + 1 ≠ g + 1 + 1; omega) (lt_of_row HX3.out.q.r1)).trans fp0
              have p1 : U5.cell? ⟨g + 1, 1, none⟩ = some (.slice none 0 0) := row_cell HX3.out.q.r1 1 _ rfl
              have fp1 := frozen_of_row _ _ 1 _ _ HX3.out.q.r1
              have p1b : ((U5.setCell ⟨g + 1 + 1, 0, none⟩ (.bool false)).setCell ⟨g + 1 + 1, 1, none⟩ (.slice (some ⟨gB, 0, none⟩) (zs.length - i) cb)).cell? ⟨g + 1, 1, none⟩ = some (.slice none 0 0) := HCB.out.cell (by show g + 1 ≠ g + 1 + 1; omega) p1
              have fp1b : ((U5.setCell ⟨g + 1 + 1, 0, none⟩ (.bool false)).setCell ⟨g + 1 + 1, 1, none⟩ (.slice (some ⟨gB, 0, none⟩) (zs.length - i) cb)).frozen? ⟨g + 1, 1, none⟩ = false := (HCB.out.frozen (by show g + 1 ≠ g + 1 + 1; omega) (lt_of_row HX3.out.q.r1)).trans fp1
              have q0 : U5.cell? ⟨g + 1 + 1, 0, none⟩ = some (.bool false) := row_cell HX3.out.q.r2 0 _ rfl
              have fq0 := frozen_of_row _ _ 0 _ _ HX3.out.q.r2
              have q0a : ((U5.setCell ⟨g + 1, 0, none⟩ (.bool false)).setCell ⟨g + 1, 1, none⟩ (.slice (some ⟨gA, 0, none⟩) i ca)).cell? ⟨g + 1 + 1, 0, none⟩ = some (.bool false) := HCA.out.cell (by show g + 1 + 1 ≠ g + 1; omega) q0
              have fq0a : ((U5.setCell ⟨g + 1, 0, none⟩ (.bool false)).setCell ⟨g + 1, 1, none⟩ (.slice (some ⟨gA, 0, none⟩) i ca)).frozen? ⟨g + 1 + 1, 0, none⟩ = false := (HCA.out.frozen (by show g + 1 + 1 ≠ g + 1; omega) (lt_of_row HX3.out.q.r2)).trans fq0
              have q1 : U5.cell? ⟨g + 1 + 1, 1, none⟩ = some (.slice none 0 0) := row_cell HX3.out.q.r2 1 _ rfl
              have fq1 := frozen_of_row _ _ 1 _ _ HX3.out.q.r2
              have q1a : ((U5.setCell ⟨g + 1, 0, none⟩ (.bool false)).setCell ⟨g + 1, 1, none⟩ (.slice (some ⟨gA, 0, none⟩) i ca)).cell? ⟨g + 1 + 1, 1, none⟩ = some (.slice none 0 0) := HCA.out.cell (by show g + 1 + 1 ≠ g + 1; omega) q1
              have fq1a : ((U5.setCell ⟨g + 1, 0, none⟩ (.bool false)).setCell ⟨g + 1, 1, none⟩ (.slice (some ⟨gA, 0, none⟩) i ca)).frozen? ⟨g + 1 + 1, 1, none⟩ = false := (HCA.out.frozen (by show g + 1 + 1 ≠ g + 1; omega) (lt_of_row HX3.out.q.r2)).trans fq1
              clear HCA HCB HCAB HCBA
              clear hla hlb
              go_wp2
              go_region
              go_wp2
              have HE := Lib.hid (HX3.out.q.end1 (.bool false) (.slice (some ⟨gA, 0, none⟩) i ca) (.bool false) (.slice (some ⟨gB, 0, none⟩) (zs.length - i) cb))
              have hla := HX3.out.la
              have hlb := HX3.out.lb
              have hBA := HBA.out
              have hAB := HAB.out
              refine bodyPost_ret (results_c_t_c rfl _ _ (g + 1) (g + 1 + 1) _ _ #[.bool false, .slice (some ⟨gA, 0, none⟩) i ca] #[.bool false, .slice (some ⟨gB, 0, none⟩) (zs.length - i) cb] (0, 0) (0, 0) (.struct _) (.struct _) rfl HE.out.2.1 Try.underlying32 rfl (by kernel_rfl) rfl HE.out.2.2 Try.underlying32 rfl (by kernel_rfl)) rfl ⟨_, _, rfl, ⟨some ⟨gA, 0, none⟩, ca, by rw [HEA.out], (own_end2 HOA4.out (by omega) _ _ _ _).slice ceCell_len, HOA4.out.cap_le.1, HOA4.out.cap_le.2⟩, ⟨some ⟨gB, 0, none⟩, cb, by rw [HLEN.out]; rfl, (own_end2 HOB3.out (by omega) _ _ _ _).slice ceCell_len, HOB3.out.cap_le.1, HOB3.out.cap_le.2⟩, HE.out.1⟩
            · go_wp2
              go_still_tail 6, (by kernel_rfl)
              change wpList _ _ _ _ _ U3.drew
              go_wp2_with (at_builtin; refine wpList_append_lies _ rfl _ _ 22 rfl U3.heap.size 59 ii _ 4 40 Try.underlying22 hii hz0 hz1 hz2 rfl (by omega) (.slice none 0 0) 0 (([] : List Ce).flatMap ceCell) rfl (Own.nil _ _ _ _ _) ⟨a, off + i * 4, none⟩ (zs.length - i) (cap - i) ((y0 :: yt).flatMap ceCell) rfl (HLB.out) (fun j u hu => (HSB.out _ HX1.out.q.gr.drew).news ceCell_len j u hu) (cells_one ceCell_one (y0 :: yt)) (by omega) (by unfold maxLen; omega) (by omega) (Nat.le_refl _) _ rfl ?_; intro gB cb vB hown hgrow hat hlt5; have HXB := Lib.hid ((HX1.out.step (Gr.refl U3).drew).step ((Own.nil U3.drew U3.drew.heap.size 59 4 ceCell).grown hgrow (Gr.refl _) (Nat.le_refl _))); have HOB : Hid (Own vB U3.heap.size 59 4 ceCell (some ⟨gB, 0, none⟩) cb ([] ++ (y0 :: yt))) := Own.app (by rw [HEB.out]; exact hown); have cB := row_cell HXB.out.b 1 _ rfl; have fB := frozen_of_row _ _ 1 _ _ HXB.out.b; have HOA2 := Lib.hid (HOA1.out.gr ((Gr.refl U3).drew.trans ((Own.nil U3.drew U3.drew.heap.size 59 4 ceCell).grown hgrow (Gr.refl _) (Nat.le_refl _)))); obtain ⟨cur, hrow⟩ := HOB.out.row; have fkB := frozen_of_row _ _ 0 _ _ hrow; obtain ⟨q, hq, hq1, hq2, hqc⟩ := HOB.out.head ceCell_len; cases hq; have kB : vB.cell? ⟨gB, 0, none⟩ = some (.string y0.1) := hqc 0 _ rfl; have hgbb : gB ≠ bb := (by have := lt_of_row HX1.out.b; omega); have hggb : g ≠ bb := (by have := HX1.out.lb; omega); have C4 := Lib.hid ((Ch.refl bb vB).setCell 1 (.slice (some ⟨gB, 0, none⟩) (zs.length - i) cb)); have kB4 : (vB.setCell ⟨bb, 1, none⟩ (.slice (some ⟨gB, 0, none⟩) (zs.length - i) cb)).cell? ⟨gB, 0, none⟩ = some (.string y0.1) := C4.out.cell hgbb kB; have fkB4 : (vB.setCell ⟨bb, 1, none⟩ (.slice (some ⟨gB, 0, none⟩) (zs.length - i) cb)).frozen? ⟨gB, 0, none⟩ = false := (C4.out.frozen hgbb hlt5).trans fkB; have nB4 : (vB.setCell ⟨bb, 1, none⟩ (.slice (some ⟨gB, 0, none⟩) (zs.length - i) cb)).cell? ⟨g, 0, none⟩ = some (.bool true) := C4.out.cell hggb (row_cell HXB.out.q.n 0 _ rfl); have HGB := Lib.hid hq1; clear hrow hq1 hq2 hqc; clear hown hgrow hat)
              have HX2 := Lib.hid (HXB.out.putB 1 (.slice (some ⟨gB, 0, none⟩) (zs.length - i) cb))
              have HOba : Hid (Own (vB.setCell ⟨bb, 1, none⟩ (.slice (some ⟨gB, 0, none⟩) (zs.length - i) cb)) U3.heap.size 59 4 ceCell (some ⟨gB, 0, none⟩) cb (y0 :: yt)) := HOB.out.ch ((Ch.refl bb vB).setCell 1 _) (fun e => by cases e; exact absurd rfl hgbb)
              have HOA3 : Hid (Own (vB.setCell ⟨bb, 1, none⟩ (.slice (some ⟨gB, 0, none⟩) (zs.length - i) cb)) U.heap.size 59 4 ceCell (some ⟨gA, 0, none⟩) ca ya) := HOA2.out.ch ((Ch.refl bb vB).setCell 1 _) (fun e => by have := (HOA2.out.lt e).2; have := HBA.out.2; omega)
              have HAB : Hid (gA < U3.heap.size ∧ U3.heap.size ≤ gB ∧ bb < U3.heap.size ∧ ba < U3.heap.size) := ⟨(HOA1.out.lt rfl).1, HGB.out, lt_of_row HX1.out.b, lt_of_row HX1.out.a⟩
              generalize vB.setCell ⟨bb, 1, none⟩ (.slice (some ⟨gB, 0, none⟩) (zs.length - i) cb) = U4 at *
              clear HXB HOB cB fB HX1 HOA1 HOA2 n1 b1 kB fkB kB4 fkB4 nB4 C4 hlt5
              have hla := HX2.out.la
              have hlb := HX2.out.lb
              have HCA := Lib.hid (((Ch.refl (g + 1) U4).setCell 0 (.bool true)).setCell 1 (.slice (some ⟨gA, 0, none⟩) i ca))
              have HCB := Lib.hid (((Ch.refl (g + 1 + 1) U4).setCell 0 (.bool true)).setCell 1 (.slice (some ⟨gB, 0, none⟩) (zs.length - i) cb))
              have HCAB := Lib.hid (((Ch.refl (g + 1 + 1) ((U4.setCell ⟨g + 1, 0, none⟩ (.bool true)).setCell ⟨g + 1, 1, none⟩ (.slice (some ⟨gA, 0, none⟩) i ca))).setCell 0 (.bool true)).setCell 1 (.slice (some ⟨gB, 0, none⟩) (zs.length - i) cb))
              have HCBA := Lib.hid (((Ch.refl (g + 1) ((U4.setCell ⟨g + 1 + 1, 0, none⟩ (.bool true)).setCell ⟨g + 1 + 1, 1, none⟩ (.slice (some ⟨gB, 0, none⟩) (zs.length - i) cb))).setCell 0 (.bool true)).setCell 1 (.slice (some ⟨gA, 0, none⟩) i ca))
              have m0 : U4.cell? ⟨ba, 0, none⟩ = some (.bool true) := row_cell HX2.out.a 0 _ rfl
              have m0a : ((U4.setCell ⟨g + 1, 0, none⟩ (.bool true)).setCell ⟨g + 1, 1, none⟩ (.slice (some ⟨gA, 0, none⟩) i ca)).cell? ⟨ba, 0, none⟩ = some (.bool true) := HCA.out.cell (by show ba ≠ g + 1; omega) m0
              have m0ab : ((((U4.setCell ⟨g + 1, 0, none⟩ (.bool true)).setCell ⟨g + 1, 1, none⟩ (.slice (some ⟨gA, 0, none⟩) i ca)).setCell ⟨g + 1 + 1, 0, none⟩ (.bool true)).setCell ⟨g + 1 + 1, 1, none⟩ (.slice (some ⟨gB, 0, none⟩) (zs.length - i) cb)).cell? ⟨ba, 0, none⟩ = some (.bool true) := HCAB.out.cell (by show ba ≠ g + 1 + 1; omega) m0a
              have m0b : ((U4.setCell ⟨g + 1 + 1, 0, none⟩ (.bool true)).setCell ⟨g + 1 + 1, 1, none⟩ (.slice (some ⟨gB, 0, none⟩) (zs.length - i) cb)).cell? ⟨ba, 0, none⟩ = some (.bool true) := HCB.out.cell (by show ba ≠ g + 1 + 1; omega) m0
              have m0ba : ((((U4.setCell ⟨g + 1 + 1, 0, none⟩ (.bool true)).setCell ⟨g + 1 + 1, 1, none⟩ (.slice (some ⟨gB, 0, none⟩) (zs.length - i) cb)).setCell ⟨g + 1, 0, none⟩ (.bool true)).setCell ⟨g + 1, 1, none⟩ (.slice (some ⟨gA, 0, none⟩) i ca)).cell? ⟨ba, 0, none⟩ = some (.bool true) := HCBA.out.cell (by show ba ≠ g + 1; omega) m0b
              have m1 : U4.cell? ⟨ba, 1, none⟩ = some (.slice (some ⟨gA, 0, none⟩) i ca) := row_cell HX2.out.a 1 _ rfl
              have m1a : ((U4.setCell ⟨g + 1, 0, none⟩ (.bool true)).setCell ⟨g + 1, 1, none⟩ (.slice (some ⟨gA, 0, none⟩) i ca)).cell? ⟨ba, 1, none⟩ = some (.slice (some ⟨gA, 0, none⟩) i ca) := HCA.out.cell (by show ba ≠ g + 1; omega) m1
              have m1ab : ((((U4.setCell ⟨g + 1, 0, none⟩ (.bool true)).setCell ⟨g + 1, 1, none⟩ (.slice (some ⟨gA, 0, none⟩) i ca)).setCell ⟨g + 1 + 1, 0, none⟩ (.bool true)).setCell ⟨g + 1 + 1, 1, none⟩ (.slice (some ⟨gB, 0, none⟩) (zs.length - i) cb)).cell? ⟨ba, 1, none⟩ = some (.slice (some ⟨gA, 0, none⟩) i ca) := HCAB.out.cell (by show ba ≠ g + 1 + 1; omega) m1a
              have m1b : ((U4.setCell ⟨g + 1 + 1, 0, none⟩ (.bool true)).setCell ⟨g + 1 + 1, 1, none⟩ (.slice (some ⟨gB, 0, none⟩) (zs.length - i) cb)).cell? ⟨ba, 1, none⟩ = some (.slice (some ⟨gA, 0, none⟩) i ca) := HCB.out.cell (by show ba ≠ g + 1 + 1; omega) m1
              have m1ba : ((((U4.setCell ⟨g + 1 + 1, 0, none⟩ (.bool true)).setCell ⟨g + 1 + 1, 1, none⟩ (.slice (some ⟨gB, 0, none⟩) (zs.length - i) cb)).setCell ⟨g + 1, 0, none⟩ (.bool true)).setCell ⟨g + 1, 1, none⟩ (.slice (some ⟨gA, 0, none⟩) i ca)).cell? ⟨ba, 1, none⟩ = some (.slice (some ⟨gA, 0, none⟩) i ca) := HCBA.out.cell (by show ba ≠ g + 1; omega) m1b
              have n0 : U4.cell? ⟨bb, 0, none⟩ = some (.bool true) := row_cell HX2.out.b 0 _ rfl
              have n0a : ((U4.setCell ⟨g + 1, 0, none⟩ (.bool true)).setCell ⟨g + 1, 1, none⟩ (.slice (some ⟨gA, 0, none⟩) i ca)).cell? ⟨bb, 0, none⟩ = some (.bool true) := HCA.out.cell (by show bb ≠ g + 1; omega) n0
              have n0ab : ((((U4.setCell ⟨g + 1, 0, none⟩ (.bool true)).setCell ⟨g + 1, 1, none⟩ (.slice (some ⟨gA, 0, none⟩) i ca)).setCell ⟨g + 1 + 1, 0, none⟩ (.bool true)).setCell ⟨g + 1 + 1, 1, none⟩ (.slice (some ⟨gB, 0, none⟩) (zs.length - i) cb)).cell? ⟨bb, 0, none⟩ = some (.bool true) := HCAB.out.cell (by show bb ≠ g + 1 + 1; omega) n0a
              have n0b : ((U4.setCell ⟨g + 1 + 1, 0, none⟩ (.bool true)).setCell ⟨g + 1 + 1, 1, none⟩ (.slice (some ⟨gB, 0, none⟩) (zs.length - i) cb)).cell? ⟨bb, 0, none⟩ = some (.bool true) := HCB.out.cell (by show bb ≠ g + 1 + 1; omega) n0
              have n0ba : ((((U4.setCell ⟨g + 1 + 1, 0, none⟩ (.bool true)).setCell ⟨g + 1 + 1, 1, none⟩ (.slice (some ⟨gB, 0, none⟩) (zs.length - i) cb)).setCell ⟨g + 1, 0, none⟩ (.bool true)).setCell ⟨g + 1, 1, none⟩ (.slice (some ⟨gA, 0, none⟩) i ca)).cell? ⟨bb, 0, none⟩ = some (.bool true) := HCBA.out.cell (by show bb ≠ g + 1; omega) n0b
              have n1 : U4.cell? ⟨bb, 1, none⟩ = some (.slice (some ⟨gB, 0, none⟩) (zs.length - i) cb) := row_cell HX2.out.b 1 _ rfl
              have n1a : ((U4.setCell ⟨g + 1, 0, none⟩ (.bool true)).setCell ⟨g + 1, 1, none⟩ (.slice (some ⟨gA, 0, none⟩) i ca)).cell? ⟨bb, 1, none⟩ = some (.slice (some ⟨gB, 0, none⟩) (zs.length - i) cb) := HCA.out.cell (by show bb ≠ g + 1; omega) n1
              have n1ab : ((((U4.setCell ⟨g + 1, 0, none⟩ (.bool true)).setCell ⟨g + 1, 1, none⟩ (.slice (some ⟨gA, 0, none⟩) i ca)).setCell ⟨g + 1 + 1, 0, none⟩ (.bool true)).setCell ⟨g + 1 + 1, 1, none⟩ (.slice (some ⟨gB, 0, none⟩) (zs.length - i) cb)).cell? ⟨bb, 1, none⟩ = some (.slice (some ⟨gB, 0, none⟩) (zs.length - i) cb) := HCAB.out.cell (by show bb ≠ g + 1 + 1; omega) n1a
              have n1b : ((U4.setCell ⟨g + 1 + 1, 0, none⟩ (.bool true)).setCell ⟨g + 1 + 1, 1, none⟩ (.slice (some ⟨gB, 0, none⟩) (zs.length - i) cb)).cell? ⟨bb, 1, none⟩ = some (.slice (some ⟨gB, 0, none⟩) (zs.length - i) cb) := HCB.out.cell (by show bb ≠ g + 1 + 1; omega) n1
              have n1ba : ((((U4.setCell ⟨g + 1 + 1, 0, none⟩ (.bool true)).setCell ⟨g + 1 + 1, 1, none⟩ (.slice (some ⟨gB, 0, none⟩) (zs.length - i) cb)).setCell ⟨g + 1, 0, none⟩ (.bool true)).setCell ⟨g + 1, 1, none⟩ (.slice (some ⟨gA, 0, none⟩) i ca)).cell? ⟨bb, 1, none⟩ = some (.slice (some ⟨gB, 0, none⟩) (zs.length - i) cb) := HCBA.out.cell (by show bb ≠ g + 1; omega) n1b
              have p0 : U4.cell? ⟨g + 1, 0, none⟩ = some (.bool false) := row_cell HX2.out.q.r1 0 _ rfl
              have fp0 := frozen_of_row _ _ 0 _ _ HX2.out.q.r1
              have p0b : ((U4.setCell ⟨g + 1 + 1, 0, none⟩ (.bool true)).setCell ⟨g + 1 + 1, 1, none⟩ (.slice (some ⟨gB, 0, none⟩) (zs.length - i) cb)).cell? ⟨g + 1, 0, none⟩ = some (.bool false) := HCB.out.cell (by show g + 1 ≠ g + 1 + 1; omega) p0
              have fp0b : ((U4.setCell ⟨g + 1 + 1, 0, none⟩ (.bool true)).setCell ⟨g + 1 + 1, 1, none⟩ (.slice (some ⟨gB, 0, none⟩) (zs.length - i) cb)).frozen? ⟨g + 1, 0, none⟩ = false := (HCB.out.frozen (by show g + 1 ≠ g + 1 + 1; omega) (lt_of_row HX2.out.q.r1)).trans fp0
              have p1 : U4.cell? ⟨g + 1, 1, none⟩ = some (.slice none 0 0) := row_cell HX2.out.q.r1 1 _ rfl
              have fp1 := frozen_of_row _ _ 1 _ _ HX2.out.q.r1
              have p1b : ((U4.setCell ⟨g + 1 + 1, 0, none⟩ (.bool true)).setCell ⟨g + 1 + 1, 1, none⟩ (.slice (some ⟨gB, 0, none⟩) (zs.length - i) cb)).cell? ⟨g + 1, 1, none⟩ = some (.slice none 0 0) := HCB.out.cell (by show g + 1 ≠ g + 1 + 1; omega) p1
              have fp1b : ((U4.setCell ⟨g + 1 + 1, 0, none⟩ (.bool true)).setCell ⟨g + 1 + 1, 1, none⟩ (.slice (some ⟨gB, 0, none⟩) (zs.length - i) cb)).frozen? ⟨g + 1, 1, none⟩ = false := (HCB.out.frozen (by show g + 1 ≠ g + 1 + 1; omega) (lt_of_row HX2.out.q.r1)).trans fp1
              have q0 : U4.cell? ⟨g + 1 + 1, 0, none⟩ = some (.bool false) := row_cell HX2.out.q.r2 0 _ rfl
              have fq0 := frozen_of_row _ _ 0 _ _ HX2.out.q.r2
              have q0a : ((U4.setCell ⟨g + 1, 0, none⟩ (.bool true)).setCell ⟨g + 1, 1, none⟩ (.slice (some ⟨gA, 0, none⟩) i ca)).cell? ⟨g + 1 + 1, 0, none⟩ = some (.bool false) := HCA.out.cell (by show g + 1 + 1 ≠ g + 1; omega) q0
              have fq0a : ((U4.setCell ⟨g + 1, 0, none⟩ (.bool true)).setCell ⟨g + 1, 1, none⟩ (.slice (some ⟨gA, 0, none⟩) i ca)).frozen? ⟨g + 1 + 1, 0, none⟩ = false := (HCA.out.frozen (by show g + 1 + 1 ≠ g + 1; omega) (lt_of_row HX2.out.q.r2)).trans fq0
              have q1 : U4.cell? ⟨g + 1 + 1, 1, none⟩ = some (.slice none 0 0) := row_cell HX2.out.q.r2 1 _ rfl
              have fq1 := frozen_of_row _ _ 1 _ _ HX2.out.q.r2
              have q1a : ((U4.setCell ⟨g + 1, 0, none⟩ (.bool true)).setCell ⟨g + 1, 1, none⟩ (.slice (some ⟨gA, 0, none⟩) i ca)).cell? ⟨g + 1 + 1, 1, none⟩ = some (.slice none 0 0) := HCA.out.cell (by show g + 1 + 1 ≠ g + 1; omega) q1
              have fq1a : ((U4.setCell ⟨g + 1, 0, none⟩ (.bool true)).setCell ⟨g + 1, 1, none⟩ (.slice (some ⟨gA, 0, none⟩) i ca)).frozen? ⟨g + 1 + 1, 1, none⟩ = false := (HCA.out.frozen (by show g + 1 + 1 ≠ g + 1; omega) (lt_of_row HX2.out.q.r2)).trans fq1
              clear HCA HCB HCAB HCBA
              clear hla hlb
              go_wp2
              go_region
              go_wp2
              have HE := Lib.hid (HX2.out.q.end1 (.bool true) (.slice (some ⟨gA, 0, none⟩) i ca) (.bool true) (.slice (some ⟨gB, 0, none⟩) (zs.length - i) cb))
              have hla := HX2.out.la
              have hlb := HX2.out.lb
              have hBA := HBA.out
              have hAB := HAB.out
              refine bodyPost_ret (results_c_t_c rfl _ _ (g + 1) (g + 1 + 1) _ _ #[.bool true, .slice (some ⟨gA, 0, none⟩) i ca] #[.bool true, .slice (some ⟨gB, 0, none⟩) (zs.length - i) cb] (0, 0) (0, 0) (.struct _) (.struct _) rfl HE.out.2.1 Try.underlying32 rfl (by kernel_rfl) rfl HE.out.2.2 Try.underlying32 rfl (by kernel_rfl)) rfl ⟨_, _, rfl, ⟨some ⟨gA, 0, none⟩, ca, by rw [HEA.out], (own_end2 HOA3.out (by omega) _ _ _ _).slice ceCell_len, HOA3.out.cap_le.1, HOA3.out.cap_le.2⟩, ⟨some ⟨gB, 0, none⟩, cb, by rw [HLEN.out]; rfl, (own_end2 HOba.out (by omega) _ _ _ _).slice ceCell_len, HOba.out.cap_le.1, HOba.out.cap_le.2⟩, HE.out.1⟩
end Go.Proofs.Ytmpmfgkabjedpaa
