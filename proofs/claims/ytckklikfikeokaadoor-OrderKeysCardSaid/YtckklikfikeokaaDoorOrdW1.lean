/- Layer 4: a number, a row's key, what stands behind. -/
import Derived.Test.YtckklikfikeokaaDoorOrdAfterM
import Derived.Test.YtckklikfikeokaaDoorOctWr
import Derived.Test.YtckklikfikeokaaDoorOctParse
import Derived.Test.YtckklikfikeokaaDoorBd3
import Derived.Test.YtckklikfikeokaaDoorSlices
import Derived.Sort.Walk0
import Derived.Laws.Cover1
namespace Go.Proofs.YtckklikfikeokaaDoor
open Go.RowKit
set_option linter.unusedVariables false
set_option linter.unusedSimpArgs false
set_option maxRecDepth 100000
set_option maxHeartbeats 2000000
theorem row_cell {w : World} {g : Nat} {t : TypeId} {cs : Array Value} (h : w.heap[g]? = some (.cells cs t (0, 0))) (i : Nat) (v : Value) (hv : cs[i]? = some v) : w.cell? ⟨g, i, none⟩ = some v := by
  rw [cell_of_row _ _ i _ _ _ h]; exact hv
theorem lt_of_row {w : World} {k : Nat} {o : Obj} (h : w.heap[k]? = some o) : k < w.heap.size := by
  rcases Nat.lt_or_ge k w.heap.size with h2 | h2
  · exact h2
  · rw [Array.getElem?_eq_none h2] at h; cases h
def paCell (p : Pa) : List Value := [.bool p.1, .int .u64 (p.2.1 : Nat), .string p.2.2]
theorem or_num (n : Nat) (hn : U64 n) (w : World) :
    Calls Tryd.prog 32 #[.int .u64 n] w fun r w' => r = .returned (.agg #[.bool false, .int .u64 n, .string .empty]) ∧ Gr w w' := by
  go_enter Tryd.func32, Tryd.ntmps32
  go_wp2
  refine bodyPost_ret (v := .agg #[.bool false, .int .u64 n, .string .empty]) (results_cell_row rfl _ _ w.heap.size _ #[.bool false, .int .u64 n, .string .empty] (0, 0) (.struct _) rfl (heap_alloc_last _ _) Tryd.underlying30 rfl (by kernel_rfl)) rfl ⟨rfl, (Gr.refl w).alloc _⟩
theorem pa_num (n : Nat) (hn : U64 n) (s : ByteArray) (w : World) :
    Calls Tryd.prog 34 #[.agg #[.bool false, .int .u64 (n : Nat), .string s]] w fun r w' => r = .returned (.string (B (paB (false, n, s)))) ∧ Gr w w' := by
  have HB : Hid (B (paB (false, n, s)) = B (Oct.be 1 1) ++ B (Oct.be n 8)) := by unfold Hid; rw [B_app]; rfl
  generalize B (paB (false, n, s)) = q at *
  have cO := fun w1 => Lib.hid (oct_one 1 (by omega) w1)
  have cE := fun w1 => Lib.hid (oct_eight n hn w1)
  have e1 : ((1 : Nat) : Int) = 1 := rfl
  simp only [e1] at cO
  clear e1
  have z1 := B_be_size 1 1
  have z2 := B_be_size n 8
  generalize B (Oct.be 1 1) = g1 at *
  generalize B (Oct.be n 8) = g2 at *
  have hno : ¬ (9223372036854775807 < g1.size + g2.size) := by omega
  rw [z1, z2] at hno
  have hw0 := heap_alloc_last w (.cells #[.bool false, .int .u64 (n : Nat), .string s] 30)
  have HW : Hid (Gr w (w.alloc (.cells #[.bool false, .int .u64 (n : Nat), .string s] 30))) := (Gr.refl w).alloc _
  go_enter Tryd.func34, Tryd.ntmps34
  have x0 := row_cell hw0 0 _ rfl
  have x1 := row_cell hw0 1 _ rfl
  clear hw0
  go_wp2
  generalize w.alloc (.cells #[.bool false, .int .u64 (n : Nat), .string s] 30) = W at *
  generalize w.heap.size = g at *
  have HQ := Lib.hid x1
  go_region_held3 (fun w' => w'.cell? ⟨g, 1, none⟩ = some (.int .u64 (n : Nat))) (first | exact HQ.out | assumption)
    (first
      | (go_at_call 39; refine (cO _).out.mono ?_; clear cO; rintro r v1 ⟨rfl, hg⟩; have HV1 : Hid (Gr W v1) := (Gr.refl W).drew.trans hg; have HQ := Lib.hid (HV1.out.cells x1); clear hg)
      | (go_at_call 50; refine (cE _).out.mono ?_; clear cE; rintro r v2 ⟨rfl, hg⟩; have HV2 : Hid (Gr W v2) := HV1.out.trans hg; have HQ := Lib.hid (HV2.out.cells x1); clear hg))
  go_wp2
  go_ret
  exact ⟨ret_str HB.out.symm, HW.out.trans HV2.out⟩
theorem or_next (s : ByteArray) (hs : s.size ≤ 4611686018427387904) (w : World) :
    Calls Tryd.prog 21 #[.string s] w fun r w' => r = .returned (.string (s ++ ⟨#[0]⟩)) ∧ w = w' := by
  have hno : ¬ (9223372036854775807 < s.size + 1) := by omega
  go_enter Tryd.func21, Tryd.ntmps21
  go_wp2
  go_ret
  exact ⟨rfl, rfl⟩
def aftAns (p : List UInt8) : ByteArray × Bool := match aftB p with | none => (.empty, false) | some a => (B a, true)
theorem or_after (P : List UInt8) (hp : P.length ≤ 4611686018427387904) (w : World) :
    Calls Tryd.prog 20 #[.string (B P)] w fun r w' => r = .returned (.tuple #[.string (aftAns P).1, .bool (aftAns P).2]) ∧ Gr w w' := by
  obtain ⟨ans, hans⟩ : ∃ ans, ans = aftAns P := ⟨_, rfl⟩
  rw [← hans]
  have HA := Lib.hid hans
  clear hans
  have hz := B_size P
  go_enter Tryd.func20, Tryd.ntmps20
  go_wp2
  go_loopw [4] (fun i wr => ∃ k : Nat, k ≤ P.length ∧ i = .int .i64 (k : Nat) ∧ Hid (Gr w wr ∧ aftB P = aftB (P.take k))) (fun i _ => (intOf i).toNat)
  case atStart => exact ⟨P.length, by omega, rfl, Gr.refl _, by rw [List.take_length]⟩
  case round =>
    obtain ⟨k, hk, rfl, HR⟩ := hrel
    by_cases h0 : k = 0
    · subst h0
      have HA2 : Hid (ans = (.empty, false)) := by
        refine HA.out.trans ?_
        unfold aftAns; rw [HR.out.2, List.take_zero, aftB_nil]
      obtain rfl := HA2.out
      go_wp2
      go_ret2
      exact ⟨rfl, HR.out.1⟩
    · obtain ⟨j, rfl⟩ : ∃ j, k = j + 1 := ⟨k - 1, by omega⟩
      clear h0
      have hj : j < P.length := by omega
      have hpos : (0 : Int) < ((j + 1 : Nat) : Int) := by omega
      have hsub : ((j + 1 : Nat) : Int) - 1 = (j : Int) := by omega
      have hjb : j < (B P).size := by rw [hz]; exact hj
      obtain ⟨d, hd⟩ : ∃ d : UInt8, (B P)[j] = d := ⟨_, rfl⟩
      have htk : P.take (j + 1) = P.take j ++ [d] := by rw [← hd]; exact List.take_succ_eq_append_getElem hj
      have hjz : (j : Int) < ((P.length : Nat) : Int) := by omega
      have hjle : (j : Int) ≤ ((P.length : Nat) : Int) := by omega
      have hjw : IntKind.i64.wrap (((j + 1 : Nat) : Int) - 1) = (j : Int) := by rw [IntKind.wrap_i64]; omega
      have hjw2 : IntKind.i64.wrap (j : Int) = (j : Int) := by rw [IntKind.wrap_i64]; omega
      have hj0 : (0 : Int) ≤ (j : Int) := by omega
      have hjt : (j : Int).toNat = j := by omega
      by_cases hc : d = 255
      · have HT : Hid (Gr w wr ∧ aftB P = aftB (P.take j)) := ⟨HR.out.1, by rw [HR.out.2, htk, hc, aftB_255]⟩
        have hc1 : (((B P)[j].toNat : Nat) : Int) = 255 := by rw [hd, hc]; rfl
        clear htk hc hd
        go_wp2
        go_roundw
        case rel => exact ⟨j, by omega, by go_num, HT⟩
        case measure => (simp [intOf]; try omega)
      · have HT : Hid (ans = (B (P.take j ++ [d + 1]), true)) := by
          refine HA.out.trans ?_
          unfold aftAns; rw [HR.out.2, htk, aftB_ne _ _ hc]
        have hu := u8_succ hc
        have hlt := (d + 1).toNat_lt
        have HB1 : Hid ((B P).extract 0 j = B (P.take j)) := by unfold Hid; rw [B_extract]; simp
        have HB2 : Hid (B (P.take j) ++ B (Oct.be (d.toNat + 1) 1) = B (P.take j ++ [d + 1])) := by
          unfold Hid
          rw [B_app]
          congr 2
        have hc1 : ¬ (((B P)[j].toNat : Nat) : Int) = 255 := by
          rw [hd]
          intro e
          exact hc (UInt8.toNat.inj (by show d.toNat = 255; omega))
        have hz1 : ((B P).extract 0 j).size ≤ P.length := by rw [HB1.out, B_size, List.length_take]; omega
        have hbc : (B P)[j].toNat = d.toNat := by rw [hd]
        rw [← hbc] at HB2 hu
        have hc9 : (B P)[j].toNat < 255 := by rw [hbc]; have := d.toNat_lt; have h3 : d.toNat ≠ 255 := fun e => hc (UInt8.toNat.inj e); omega
        have cO := fun w1 => Lib.hid (oct_one ((B P)[j].toNat + 1) (by omega) w1)
        have e1 : (((B P)[j].toNat + 1 : Nat) : Int) = (((B P)[j].toNat : Nat) : Int) + 1 := by omega
        rw [e1] at cO
        have hw8 : IntKind.u8.wrap ((((B P)[j].toNat : Nat) : Int) + 1) = (((B P)[j].toNat : Nat) : Int) + 1 := by rw [IntKind.wrap_u8']; omega
        have hz2 := B_be_size ((B P)[j].toNat + 1) 1
        generalize B (P.take j ++ [d + 1]) = R at *
        generalize B (Oct.be ((B P)[j].toNat + 1) 1) = g1 at *
        clear hu hlt e1 hc hbc hd htk
        have hno : ¬ (9223372036854775807 < ((B P).extract 0 j).size + g1.size) := by omega
        rw [hz2] at hno
        have hmin : min j P.length = j := by omega
        have hno2 : ¬ (9223372036854775807 < j + 1) := by omega
        have HW : Hid (Gr w wr) := HR.out.1
        clear HR
        go_wp2
        go_region_held3 (fun _ => True) (trivial)
          ((go_at_call 39; refine (cO _).out.mono ?_; clear cO; rintro r v1 ⟨rfl, hg⟩; have HV1 := Lib.hid hg; clear hg))
        go_wp2
        go_ret2
        exact ⟨(by rw [HT.out, ← HB2.out, ← HB1.out]; rfl), HW.out.drew.trans HV1.out⟩
/-- a row's key, or that it is too long -/
def keyAns (l : List Pa) : ByteArray × Int := if 255 < (keyB l).length then (.empty, 5) else (B (keyB l), 0)
theorem keyB_take (l : List Pa) (k : Nat) : (keyB (l.take k)).length ≤ (keyB l).length := by
  have h : keyB l = keyB (l.take k) ++ keyB (l.drop k) := by rw [← keyB_app, List.take_append_drop]
  rw [h, List.length_append]; omega
theorem keyB_snoc (l : List Pa) (k : Nat) (h : k < l.length) : keyB (l.take (k + 1)) = keyB (l.take k) ++ paB l[k] := by
  rw [List.take_succ_eq_append_getElem h, keyB_app]
  simp [keyB]
theorem g_step {n m : Nat} {G G2 : Option Nat} (h1 : ∀ g, G = some g → n ≤ g) (hG : G2 = G ∨ ∀ g, G2 = some g → m ≤ g) (hs : n ≤ m) : ∀ g, G2 = some g → n ≤ g := by
  intro g hg
  rcases hG with h | h
  · exact h1 g (h.symm.trans hg)
  · exact Nat.le_trans hs (h g hg)
theorem or_key (A : Option Addr) (cap : Nat) (l : List Pa) (hcap : l.length ≤ cap) (hcm : cap ≤ maxLen) (hlen : ∀ p ∈ l, (paB p).length ≤ 100000) (w : World) (hs : SliceAt w A 3 paCell l)
    (hby : ∀ p ∈ l, ∀ W, Gr w W → Calls Tryd.prog 34 #[.agg #[.bool p.1, .int .u64 (p.2.1 : Nat), .string p.2.2]] W fun r w' => r = .returned (.string (B (paB p))) ∧ Gr W w') :
    Calls Tryd.prog 17 #[.slice A l.length cap] w fun r w' => r = .returned (.tuple #[.string (keyAns l).1, .int .i64 (keyAns l).2]) ∧ Gr w w' := by
  unfold maxLen at hcm
  obtain ⟨ans, hans⟩ : ∃ ans, ans = keyAns l := ⟨_, rfl⟩
  rw [← hans]
  have HA := Lib.hid hans
  clear hans
  have HX := Lib.hid (And.intro hs (And.intro hlen hby))
  clear hs hlen hby
  have HB0 := Lib.hid (Bd.new w)
  have HG0 : Hid (Gr w (w.alloc (.cells #[.pointer none, .slice none 0 0] 64))) := (Gr.refl w).alloc _
  go_enter Tryd.func17, Tryd.ntmps17
  go_wp2
  generalize w.alloc (.cells #[.pointer none, .slice none 0 0] 64) = W at *
  obtain ⟨b, hb⟩ : ∃ b, b = w.heap.size := ⟨_, rfl⟩
  rw [← hb] at HB0 ⊢
  have HBB := Lib.hid hb
  clear hb
  go_loopw [9] (fun i wr => ∃ (k : Nat) (G : Option Nat), k ≤ l.length ∧ i = .int .i64 (k : Nat) ∧ (keyB (l.take k)).length ≤ 255 ∧ Hid (Bd wr b G (keyB (l.take k)) ∧ Gr w wr ∧ ∀ g, G = some g → w.heap.size ≤ g)) (fun i _ => l.length - (intOf i).toNat)
  case atStart => exact ⟨0, none, by omega, rfl, by simp [keyB], HB0.out, HG0.out, fun g h => by cases h⟩
  case round =>
    obtain ⟨k, G, hk, rfl, hkl, HR⟩ := hrel
    clear HB0 HG0
    by_cases hlt : k < l.length
    · rcases HX.out.1 with h0 | ⟨a, off, rfl, hcell⟩
      · subst h0; simp at hlt
      have hget := List.getElem?_eq_getElem hlt
      have hmem := List.getElem_mem hlt
      have hsn := keyB_snoc l k hlt
      have hpl := HX.out.2.1 l[k] hmem
      have cP := fun W1 h1 => Lib.hid (HX.out.2.2 l[k] hmem W1 h1)
      have htk := keyB_take l (k + 1)
      generalize l[k] = p at *
      obtain ⟨p0, p1, p2⟩ := p
      have a0 := HR.out.2.1.cells (hcell k _ hget 0 _ rfl)
      have a1 := HR.out.2.1.cells (hcell k _ hget 1 _ rfl)
      have a2 := HR.out.2.1.cells (hcell k _ hget 2 _ rfl)
      simp only [Nat.add_zero] at a0
      clear hcell hget hmem
      have hz := B_size (paB (p0, p1, p2))
      generalize hpb : paB (p0, p1, p2) = pb at *
      clear hpb
      have HSN := Lib.hid hsn
      have hsl : (keyB (l.take (k + 1))).length = (keyB (l.take k)).length + pb.length := by rw [hsn, List.length_append]
      clear hsn
      obtain ⟨nx, hnx⟩ : ∃ nx, nx = keyB (l.take (k + 1)) := ⟨_, rfl⟩
      rw [← hnx] at HSN hsl htk
      have HNX := Lib.hid hnx
      clear hnx
      generalize keyB (l.take k) = cur at *
      have HR0 : Hid (Bd (wr.alloc (.cells #[.bool p0, .int .u64 (p1 : Nat), .string p2] 30)) b G cur ∧ Gr w (wr.alloc (.cells #[.bool p0, .int .u64 (p1 : Nat), .string p2] 30))) := ⟨HR.out.1.gr ((Gr.refl wr).alloc _), HR.out.2.1.alloc _⟩
      by_cases hbig : 255 < nx.length
      · have hbig2 : (255 : Int) < ((nx.length : Nat) : Int) := by omega
        have HA2 : Hid (ans = (.empty, 5)) := HA.out.trans (by unfold keyAns; rw [if_pos (by omega)])
        obtain rfl := HA2.out
        go_wp2_with (first
          | (go_at_call 34; refine (cP _ HR0.out.2).out.mono ?_; clear cP; rintro r v1 ⟨rfl, hg⟩; have HR1 := Lib.hid (And.intro (HR0.out.1.gr hg) (HR0.out.2.trans hg)); clear hg)
          | (go_at_call 33; refine (bd_put b G cur (B pb) _ HR1.out.1 (by rw [hz]; omega)).mono ?_; rintro r v2 ⟨G2, rfl, hB, hK, hG⟩; rw [B_list] at hB; have HR2 : Hid (Bd v2 b G2 nx ∧ Gr w v2) := ⟨by rw [HSN.out]; exact hB, hK.gr HR1.out.2 (by rw [HBB.out]; exact Nat.le_refl _) HR.out.2.2⟩; clear hB hK hG)
          | (go_at_call 35; refine (bd_len b G2 nx _ HR2.out.1).mono ?_; rintro r v3 ⟨rfl, rfl⟩))
        go_ret2
        exact ⟨rfl, HR2.out.2⟩
      · have hbig2 : ¬ (255 : Int) < ((nx.length : Nat) : Int) := by omega
        go_wp2_with (first
          | (go_at_call 34; refine (cP _ HR0.out.2).out.mono ?_; clear cP; rintro r v1 ⟨rfl, hg⟩; have HR1 := Lib.hid (And.intro (HR0.out.1.gr hg) (HR0.out.2.trans hg)); clear hg)
          | (go_at_call 33; refine (bd_put b G cur (B pb) _ HR1.out.1 (by rw [hz]; omega)).mono ?_; rintro r v2 ⟨G2, rfl, hB, hK, hG⟩; rw [B_list] at hB; have HR2 : Hid (Bd v2 b G2 nx ∧ Gr w v2 ∧ ∀ g, G2 = some g → w.heap.size ≤ g) := ⟨by rw [HSN.out]; exact hB, hK.gr HR1.out.2 (by rw [HBB.out]; exact Nat.le_refl _) HR.out.2.2, g_step HR.out.2.2 hG HR1.out.2.size⟩; clear hB hK hG)
          | (go_at_call 35; refine (bd_len b G2 nx _ HR2.out.1).mono ?_; rintro r v3 ⟨rfl, rfl⟩))
        have HT : Hid (Bd v3 b G2 (keyB (l.take (k + 1))) ∧ Gr w v3 ∧ ∀ g, G2 = some g → w.heap.size ≤ g) := by rw [← HNX.out]; exact HR2.out
        have hT2 : (keyB (l.take (k + 1))).length ≤ 255 := by rw [← HNX.out]; omega
        clear HR HR0 HR1 HR2 hsl htk
        go_roundw
        case rel => exact ⟨k + 1, G2, by omega, by go_num, hT2, HT⟩
        case measure => simp [intOf]; omega
    · obtain rfl : k = l.length := by omega
      rw [List.take_length] at HR hkl
      have HA2 : Hid (ans = (B (keyB l), 0)) := HA.out.trans (by unfold keyAns; rw [if_neg (by omega)])
      obtain rfl := HA2.out
      have c1 := Lib.hid (bd_str b G (keyB l) wr HR.out.1 (by omega))
      go_wp2_with (go_at_call 36; refine c1.out.mono ?_; clear c1; rintro r v4 ⟨rfl, hK⟩; have HZ := Lib.hid (hK.gr HR.out.2.1 (by rw [HBB.out]; exact Nat.le_refl _) HR.out.2.2); clear hK)
      go_ret2
      exact ⟨rfl, HZ.out⟩
end Go.Proofs.YtckklikfikeokaaDoor
