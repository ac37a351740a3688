/- Layer 10: where cells are cut (no program in sight): the best place so far. -/
import Derived.Test.YtmpmfgkabjedpaaMgDo03
import Derived.Test.YtmpmfgkabjedpaaMgDo04
namespace Go.Proofs.Ytmpmfgkabjedpaa
set_option linter.unusedVariables false
set_option linter.unusedSimpArgs false
def hfD (f : Nat → Nat) (all i : Nat) : Int := max ((f i : Int) - ((all : Int) - (f i : Int))) ((all : Int) - (f i : Int) - (f i : Int))
/-- the best place and the least difference behind the places 1 .. k -/
def hfGo (f : Nat → Nat) (all : Nat) (s : Nat × Int) : Nat → Nat × Int
  | 0 => s
  | k + 1 => let r := hfGo f all s k; if r.2 < 0 ∨ hfD f all (k + 1) < r.2 then (k + 1, hfD f all (k + 1)) else r
theorem hfD_nn (f : Nat → Nat) (all i : Nat) : 0 ≤ hfD f all i := by unfold hfD; omega
theorem hfGo_same (f : Nat → Nat) (all : Nat) (s t : Nat × Int) (hs : s.2 < 0) (ht : t.2 < 0) : ∀ k, hfGo f all s (k + 1) = hfGo f all t (k + 1)
  | 0 => by simp [hfGo, hs, ht]
  | k + 1 => by
    have ih := hfGo_same f all s t hs ht k
    show (let r := hfGo f all s (k + 1); if r.2 < 0 ∨ hfD f all (k + 2) < r.2 then (k + 2, hfD f all (k + 2)) else r) = _
    rw [ih]; rfl
theorem hfGo_le (f : Nat → Nat) (all : Nat) (s : Nat × Int) : ∀ k, (hfGo f all s k).1 = s.1 ∨ (1 ≤ (hfGo f all s k).1 ∧ (hfGo f all s k).1 ≤ k)
  | 0 => .inl rfl
  | k + 1 => by
    have ih := hfGo_le f all s k
    by_cases h : (hfGo f all s k).2 < 0 ∨ hfD f all (k + 1) < (hfGo f all s k).2
    · refine .inr ?_
      have : hfGo f all s (k + 1) = (k + 1, hfD f all (k + 1)) := by simp only [hfGo]; rw [if_pos h]
      rw [this]; exact ⟨by show 1 ≤ k + 1; omega, Nat.le_refl _⟩
    · have : hfGo f all s (k + 1) = hfGo f all s k := by simp only [hfGo]; rw [if_neg h]
      rw [this]; omega
theorem hfGo_pos (f : Nat → Nat) (all k : Nat) (s : Nat × Int) (h : (hfGo f all s k).2 < 0 ∨ hfD f all (k + 1) < (hfGo f all s k).2) : hfGo f all s (k + 1) = (k + 1, hfD f all (k + 1)) := by simp only [hfGo]; rw [if_pos h]
theorem hfGo_neg (f : Nat → Nat) (all k : Nat) (s : Nat × Int) (h : ¬ ((hfGo f all s k).2 < 0 ∨ hfD f all (k + 1) < (hfGo f all s k).2)) : hfGo f all s (k + 1) = hfGo f all s k := by simp only [hfGo]; rw [if_neg h]
theorem hfGo_bd (f : Nat → Nat) (all : Nat) (s : Nat × Int) (h0 : -1 ≤ s.2 ∧ s.2 ≤ 100000000000) (hf : ∀ i, f i ≤ 10000000000) (ha : all ≤ 10000000000) : ∀ k, -1 ≤ (hfGo f all s k).2 ∧ (hfGo f all s k).2 ≤ 100000000000
  | 0 => h0
  | k + 1 => by
    by_cases h : (hfGo f all s k).2 < 0 ∨ hfD f all (k + 1) < (hfGo f all s k).2
    · rw [hfGo_pos f all k s h]; have := hf (k + 1); have := hfD_nn f all (k + 1); unfold hfD at *; simp only; omega
    · rw [hfGo_neg f all k s h]; exact hfGo_bd f all s h0 hf ha k
def hfAt {α : Type} (sm : List α → Nat) (xs : List α) : Nat := (hfGo (fun i => sm (xs.take i)) (sm xs) (1, -1) (xs.length - 1)).1
theorem hfAt_le {α : Type} (sm : List α → Nat) (xs : List α) (h : 2 ≤ xs.length) : 1 ≤ hfAt sm xs ∧ hfAt sm xs < xs.length := by
  have := hfGo_le (fun i => sm (xs.take i)) (sm xs) (1, -1) (xs.length - 1)
  unfold hfAt
  rcases this with h2 | h2
  · rw [h2]; simp only; omega
  · omega
theorem sumB_le {α : Type} (g : α → Nat) (m : Nat) : ∀ (xs : List α), (∀ x ∈ xs, g x ≤ m) → (xs.map g).sum ≤ xs.length * m
  | [], _ => by simp
  | x :: xs, h => by
    have h1 := sumB_le g m xs (fun y hy => h y (List.mem_cons_of_mem _ hy))
    have h2 := h x (List.mem_cons_self ..)
    simp only [List.map_cons, List.sum_cons, List.length_cons, Nat.succ_mul]; omega
theorem sumB_take {α : Type} (g : α → Nat) (xs : List α) (i : Nat) : ((xs.take i).map g).sum ≤ (xs.map g).sum := by
  have h : xs.take i ++ xs.drop i = xs := List.take_append_drop i xs
  have h2 : (xs.map g).sum = ((xs.take i).map g).sum + ((xs.drop i).map g).sum := by
    rw [← List.sum_append, ← List.map_append, h]
  omega
theorem nd_cut_ge (m o e t : Nat) : m ≤ (Question.appendCap m o e).cut t := Nat.le_add_right _ _
theorem nd_cut_le (m o e t : Nat) (hm : m ≤ 4000) : (Question.appendCap m o e).cut t ≤ maxLen := by
  show m + t % (2 ^ 63 - m) ≤ maxLen
  have := Nat.mod_lt t (show 0 < 2 ^ 63 - m by omega)
  unfold maxLen; omega
end Go.Proofs.Ytmpmfgkabjedpaa
namespace Go.Proofs.Ytmpmfgkabjedpaa
open Go.RowKit
set_option linter.unusedVariables false
set_option linter.unusedSimpArgs false
set_option maxRecDepth 100000
set_option maxHeartbeats 4000000
theorem lf_bd (xs : List Ce) (hl : xs.length ≤ 4000) (hx : ∀ x ∈ xs, ceOk x) : lfSum xs ≤ 241208000 ∧ ∀ i, lfSum (xs.take i) ≤ 241208000 := by
  have h : lfSum xs ≤ xs.length * 60302 := sumB_le (fun x => 2 + (lfB x).size) 60302 xs (fun x hq => by
    have h2 := hx x hq
    show 2 + (lfB x).size ≤ 60302
    obtain ⟨e0, e1, e2, e3⟩ := x
    have h3 := lfBytes_size e0 e1 e2 e3 h2.2.1
    show 2 + (ceBytes (e0, e1, e2, e3)).size ≤ 60302; omega)
  have h4 : xs.length * 60302 ≤ 241208000 := by omega
  refine ⟨by omega, fun i => ?_⟩
  have h5 : lfSum (xs.take i) ≤ lfSum xs := sumB_take (fun x => 2 + (lfB x).size) xs i
  omega
theorem ndlf_max (a b : Int) (w : World) : (Builtin.max_ #[3, 3] 3 #[.int .i64 a, .int .i64 b]).run Try.prog w = .ok (.int .i64 (max a b)) w := by
  have h : (Builtin.max_ #[3, 3] 3 #[.int .i64 a, .int .i64 b]).run Try.prog w = .ok (.int .i64 (if b > a then b else a)) w := by kernel_rfl
  rw [h]
  have h2 : (if b > a then b else a) = max a b := by split <;> omega
  rw [h2]
theorem lf_half (A : Option Addr) (cap : Nat) (xs : List Ce) (hcap : xs.length ≤ cap) (hcm : cap ≤ maxLen) (hl : xs.length ≤ 4000) (hx : ∀ x ∈ xs, ceOk x) (w : World) (hs : SliceAt w A 4 ceCell xs) :
    Calls Try.prog 36 #[.agg #[.func (.func 68) #[] #[], .func (.func 69) #[] #[], .func (.func 70) #[] #[], .func (.func 71) #[] #[]], .slice A xs.length cap] w fun r w' => r = .returned (.int .i64 ((hfAt lfSum xs : Nat) : Int)) ∧ Gr w w' := by
  have hbd := lf_bd xs hl hx
  have HBD := Lib.hid (hfGo_bd (fun i => lfSum (xs.take i)) (lfSum xs) (1, -1) (by simp) (fun i => by have := hbd.2 i; omega) (by have := hbd.1; omega))
  have cS : ∀ w1, SliceAt w1 A 4 ceCell xs → Hid (Calls Try.prog 58 #[.agg #[.func (.func 68) #[] #[], .func (.func 69) #[] #[], .func (.func 70) #[] #[], .func (.func 71) #[] #[]], .slice A xs.length cap] w1 fun r w' => r = .returned (.int .i64 ((lfSum xs : Nat) : Int)) ∧ Gr w1 w') := fun w1 h => lf_sum A cap xs hcap hcm hl hx w1 h
  unfold maxLen at hcm
  obtain ⟨ans, hans⟩ : ∃ ans, ans = hfAt lfSum xs := ⟨_, rfl⟩
  rw [← hans]
  have HA := Lib.hid hans
  clear hans
  have HX := Lib.hid (And.intro hs hx)
  clear hs hx
  have HBS := Lib.hid hbd
  obtain ⟨all, hall⟩ : ∃ all, all = lfSum xs := ⟨_, rfl⟩
  have hallb : all ≤ 241208000 := by rw [hall]; exact hbd.1
  clear hbd
  rw [← hall] at HBD cS
  have HAL := Lib.hid hall
  clear hall
  have hw0 := Lib.hid (heap_alloc_last w (.cells #[.func (.func 68) #[] #[], .func (.func 69) #[] #[], .func (.func 70) #[] #[], .func (.func 71) #[] #[]] 79))
  have HW : Hid (Gr w (w.alloc (.cells #[.func (.func 68) #[] #[], .func (.func 69) #[] #[], .func (.func 70) #[] #[], .func (.func 71) #[] #[]] 79))) := (Gr.refl w).alloc _
  have s0 := row_cell hw0.out 0 _ rfl
  go_enter Try.func36, Try.ntmps36
  go_wp2_with (go_at_call 58; refine (cS _ (HX.out.1.gr HW.out)).out.mono ?_; clear cS; rintro r v1 ⟨rfl, hg⟩; have HV1 : Hid (Gr w v1 ∧ v1.heap[w.heap.size]? = some (.cells #[.func (.func 68) #[] #[], .func (.func 69) #[] #[], .func (.func 70) #[] #[], .func (.func 71) #[] #[]] 79 (0, 0))) := ⟨HW.out.trans hg, (hg.block (lt_of_row hw0.out)).trans hw0.out⟩; clear hg)
  have HV : Hid (Gr w v1 ∧ v1.heap[w.heap.size]? = some (.cells #[.func (.func 68) #[] #[], .func (.func 69) #[] #[], .func (.func 70) #[] #[], .func (.func 71) #[] #[]] 79 (0, 0))) := HV1
  clear HV1 HW hw0 s0
  generalize w.heap.size = g at *
  go_loopw [6, 7, 8, 9] (fun lf be le i wr => ∃ k : Nat, k ≤ xs.length - 1 ∧ i = .int .i64 ((k + 1 : Nat) : Int) ∧ lf = .int .i64 ((lfSum (xs.take k) : Nat) : Int) ∧ be = .int .i64 (((hfGo (fun i => lfSum (xs.take i)) all (1, -1) k).1 : Nat) : Int) ∧ le = .int .i64 (hfGo (fun i => lfSum (xs.take i)) all (1, -1) k).2 ∧ Hid (Gr w wr ∧ wr.heap[g]? = some (.cells #[.func (.func 68) #[] #[], .func (.func 69) #[] #[], .func (.func 70) #[] #[], .func (.func 71) #[] #[]] 79 (0, 0)))) (fun _ _ _ i _ => xs.length - (intOf i).toNat)
  case atStart => exact ⟨0, by omega, rfl, by simp [lfSum], rfl, rfl, HV.out⟩
  case round =>
    obtain ⟨k, hk, rfl, rfl, rfl, rfl, HR⟩ := hrel
    have hbd1 := HBD.out k
    by_cases hlt : k + 1 < xs.length
    · rcases HX.out.1 with h0 | ⟨a, off, rfl, hcell⟩
      · subst h0; simp at hlt
      have hkl : k < xs.length := by omega
      have hget := List.getElem?_eq_getElem hkl
      have hxo := HX.out.2 xs[k] (List.getElem_mem hkl)
      have hsn := lfSum_snoc xs k hkl
      generalize xs[k] = x at *
      obtain ⟨e0, e1, e2, e3⟩ := x
      have a0 := HR.out.1.cells (hcell k _ hget 0 _ rfl)
      have a1 := HR.out.1.cells (hcell k _ hget 1 _ rfl)
      have a2 := HR.out.1.cells (hcell k _ hget 2 _ rfl)
      have a3 := HR.out.1.cells (hcell k _ hget 3 _ rfl)
      simp only [Nat.add_zero] at a0
      clear hcell hget
      have cS := fun w1 => Lib.hid (lf_size e0 e1 e2 e3 hxo.1 hxo.2.1 hxo.2.2.1 hxo.2.2.2 w1)
      simp only [lfB] at hsn
      have hb2 := HBS.out.2 (k + 1)
      have hDe : hfD (fun i => lfSum (xs.take i)) all (k + 1) = max ((lfSum (xs.take (k + 1)) : Int) - ((all : Int) - (lfSum (xs.take (k + 1)) : Int))) ((all : Int) - (lfSum (xs.take (k + 1)) : Int) - (lfSum (xs.take (k + 1)) : Int)) := rfl
      have hpos := hfGo_pos (fun i => lfSum (xs.take i)) all k (1, -1)
      have hneg := hfGo_neg (fun i => lfSum (xs.take i)) all k (1, -1)
      generalize hfD (fun i => lfSum (xs.take i)) all (k + 1) = D at *
      generalize hS2 : hfGo (fun i => lfSum (xs.take i)) all (1, -1) (k + 1) = st2 at *
      have HS2 := Lib.hid hS2
      clear hS2
      generalize hfGo (fun i => lfSum (xs.take i)) all (1, -1) k = st at *
      generalize hL : lfSum (xs.take (k + 1)) = L2 at *
      have HL2 := Lib.hid hL
      clear hL
      generalize lfSum (xs.take k) = L at *
      generalize ceBytes (e0, e1, e2, e3) = q at *
      generalize hB : st.1 = b at *
      have HB1 := Lib.hid hB
      clear hB
      generalize hE : st.2 = le at *
      have HE1 := Lib.hid hE
      clear hE
      have hw1 : IntKind.i64.wrap ((L : Int) + (2 + (q.size : Int))) = (L2 : Int) := by rw [IntKind.wrap_i64]; omega
      have hw1b : IntKind.i64.wrap ((L : Int) + ((2 + q.size : Nat) : Int)) = (L2 : Int) := by rw [IntKind.wrap_i64]; omega
      have hw2 : IntKind.i64.wrap ((all : Int) - (L2 : Int)) = (all : Int) - (L2 : Int) := by rw [IntKind.wrap_i64]; omega
      have hw3 : IntKind.i64.wrap ((L2 : Int) - ((all : Int) - (L2 : Int))) = (L2 : Int) - ((all : Int) - (L2 : Int)) := by rw [IntKind.wrap_i64]; omega
      have hw4 : IntKind.i64.wrap ((all : Int) - (L2 : Int) - (L2 : Int)) = (all : Int) - (L2 : Int) - (L2 : Int) := by rw [IntKind.wrap_i64]; omega
      have hwk : IntKind.i64.wrap ((k : Int) + 1 - 1) = (k : Int) := by rw [IntKind.wrap_i64]; omega
      have hwk2 : IntKind.i64.wrap (((k + 1 : Nat) : Int) - 1) = (k : Int) := by rw [IntKind.wrap_i64]; omega
      have hmx : ∀ w1, (Builtin.max_ #[3, 3] 3 #[.int .i64 ((L2 : Int) - ((all : Int) - (L2 : Int))), .int .i64 ((all : Int) - (L2 : Int) - (L2 : Int))]).run Try.prog w1 = .ok (.int .i64 D) w1 := fun w1 => (ndlf_max _ _ w1).trans (by rw [hDe])
      have hkt : (k : Int).toNat = k := by omega
      have hk0 : (0 : Int) ≤ (k : Int) := by omega
      have hkz : (k : Int) < ((xs.length : Nat) : Int) := by omega
      have hk1z : (k : Int) + 1 < ((xs.length : Nat) : Int) := by omega
      have HSN := Lib.hid hsn
      have HPN := Lib.hid (And.intro hpos hneg)
      clear hsn hDe hpos hneg
      have t0 := row_cell HR.out.2 0 _ rfl
      have t1 := row_cell HR.out.2 1 _ rfl
      have t2 := row_cell HR.out.2 2 _ rfl
      have t3 := row_cell HR.out.2 3 _ rfl
      have HQ := Lib.hid (And.intro t0 (And.intro t1 (And.intro t2 (And.intro t3 (And.intro a0 (And.intro a1 (And.intro a2 a3)))))))
      have hwk3 : IntKind.i64.wrap (k : Int) = (k : Int) := by rw [IntKind.wrap_i64]; omega
      have hwk4 : IntKind.i64.wrap ((k : Int) + 1 + 1) = (k : Int) + 1 + 1 := by rw [IntKind.wrap_i64]; omega
      by_cases c1 : le < 0
      · obtain rfl := HPN.out.1 (.inl c1)
        by_cases c2 : D < le
        · go_wp2
          go_region_held3 (fun w' => w'.cell? ⟨g, 0, none⟩ = some (.func (.func 68) #[] #[]) ∧ w'.cell? ⟨g, 1, none⟩ = some (.func (.func 69) #[] #[]) ∧ w'.cell? ⟨g, 2, none⟩ = some (.func (.func 70) #[] #[]) ∧ w'.cell? ⟨g, 3, none⟩ = some (.func (.func 71) #[] #[]) ∧ w'.cell? ⟨a, off + k * 4, none⟩ = some (.string e0) ∧ w'.cell? ⟨a, off + k * 4 + 1, none⟩ = some (.string e1) ∧ w'.cell? ⟨a, off + k * 4 + 2, none⟩ = some (.int .u32 (e2 : Nat)) ∧ w'.cell? ⟨a, off + k * 4 + 3, none⟩ = some (.int .u32 (e3 : Nat))) (first | exact HQ.out | assumption)
            ((go_at_call 67; refine (cS _).out.mono ?_; clear cS; rintro r v2 ⟨rfl, hg⟩; have HG3 : Hid (Gr wr v2) := (Gr.refl wr).drew.trans hg; have HQ := Lib.hid (And.intro (HG3.out.cells t0) (And.intro (HG3.out.cells t1) (And.intro (HG3.out.cells t2) (And.intro (HG3.out.cells t3) (And.intro (HG3.out.cells a0) (And.intro (HG3.out.cells a1) (And.intro (HG3.out.cells a2) (HG3.out.cells a3)))))))); clear hg))
          go_wp2
          have HT : Hid (Gr w v2 ∧ v2.heap[g]? = some (.cells #[.func (.func 68) #[] #[], .func (.func 69) #[] #[], .func (.func 70) #[] #[], .func (.func 71) #[] #[]] 79 (0, 0))) := ⟨HR.out.1.trans HG3.out, (HG3.out.block (lt_of_row HR.out.2)).trans HR.out.2⟩
          go_roundw
          case rel => exact ⟨k + 1, by omega, by go_num, by rw [HL2.out], by rw [HS2.out]; simp, by rw [HS2.out], HT⟩
          case measure => simp [intOf]; omega
        · go_wp2
          go_region_held3 (fun w' => w'.cell? ⟨g, 0, none⟩ = some (.func (.func 68) #[] #[]) ∧ w'.cell? ⟨g, 1, none⟩ = some (.func (.func 69) #[] #[]) ∧ w'.cell? ⟨g, 2, none⟩ = some (.func (.func 70) #[] #[]) ∧ w'.cell? ⟨g, 3, none⟩ = some (.func (.func 71) #[] #[]) ∧ w'.cell? ⟨a, off + k * 4, none⟩ = some (.string e0) ∧ w'.cell? ⟨a, off + k * 4 + 1, none⟩ = some (.string e1) ∧ w'.cell? ⟨a, off + k * 4 + 2, none⟩ = some (.int .u32 (e2 : Nat)) ∧ w'.cell? ⟨a, off + k * 4 + 3, none⟩ = some (.int .u32 (e3 : Nat))) (first | exact HQ.out | assumption)
            ((go_at_call 67; refine (cS _).out.mono ?_; clear cS; rintro r v2 ⟨rfl, hg⟩; have HG3 : Hid (Gr wr v2) := (Gr.refl wr).drew.trans hg; have HQ := Lib.hid (And.intro (HG3.out.cells t0) (And.intro (HG3.out.cells t1) (And.intro (HG3.out.cells t2) (And.intro (HG3.out.cells t3) (And.intro (HG3.out.cells a0) (And.intro (HG3.out.cells a1) (And.intro (HG3.out.cells a2) (HG3.out.cells a3)))))))); clear hg))
          go_wp2
          have HT : Hid (Gr w v2 ∧ v2.heap[g]? = some (.cells #[.func (.func 68) #[] #[], .func (.func 69) #[] #[], .func (.func 70) #[] #[], .func (.func 71) #[] #[]] 79 (0, 0))) := ⟨HR.out.1.trans HG3.out, (HG3.out.block (lt_of_row HR.out.2)).trans HR.out.2⟩
          go_roundw
          case rel => exact ⟨k + 1, by omega, by go_num, by rw [HL2.out], by rw [HS2.out]; simp, by rw [HS2.out], HT⟩
          case measure => simp [intOf]; omega
      · by_cases c2 : D < le
        · obtain rfl := HPN.out.1 (.inr c2)
          go_wp2
          go_region_held3 (fun w' => w'.cell? ⟨g, 0, none⟩ = some (.func (.func 68) #[] #[]) ∧ w'.cell? ⟨g, 1, none⟩ = some (.func (.func 69) #[] #[]) ∧ w'.cell? ⟨g, 2, none⟩ = some (.func (.func 70) #[] #[]) ∧ w'.cell? ⟨g, 3, none⟩ = some (.func (.func 71) #[] #[]) ∧ w'.cell? ⟨a, off + k * 4, none⟩ = some (.string e0) ∧ w'.cell? ⟨a, off + k * 4 + 1, none⟩ = some (.string e1) ∧ w'.cell? ⟨a, off + k * 4 + 2, none⟩ = some (.int .u32 (e2 : Nat)) ∧ w'.cell? ⟨a, off + k * 4 + 3, none⟩ = some (.int .u32 (e3 : Nat))) (first | exact HQ.out | assumption)
            ((go_at_call 67; refine (cS _).out.mono ?_; clear cS; rintro r v2 ⟨rfl, hg⟩; have HG3 : Hid (Gr wr v2) := (Gr.refl wr).drew.trans hg; have HQ := Lib.hid (And.intro (HG3.out.cells t0) (And.intro (HG3.out.cells t1) (And.intro (HG3.out.cells t2) (And.intro (HG3.out.cells t3) (And.intro (HG3.out.cells a0) (And.intro (HG3.out.cells a1) (And.intro (HG3.out.cells a2) (HG3.out.cells a3)))))))); clear hg))
          go_wp2
          have HT : Hid (Gr w v2 ∧ v2.heap[g]? = some (.cells #[.func (.func 68) #[] #[], .func (.func 69) #[] #[], .func (.func 70) #[] #[], .func (.func 71) #[] #[]] 79 (0, 0))) := ⟨HR.out.1.trans HG3.out, (HG3.out.block (lt_of_row HR.out.2)).trans HR.out.2⟩
          go_roundw
          case rel => exact ⟨k + 1, by omega, by go_num, by rw [HL2.out], by rw [HS2.out]; simp, by rw [HS2.out], HT⟩
          case measure => simp [intOf]; omega
        · have he := HPN.out.2 (fun h => h.elim c1 c2)
          go_wp2
          go_region_held3 (fun w' => w'.cell? ⟨g, 0, none⟩ = some (.func (.func 68) #[] #[]) ∧ w'.cell? ⟨g, 1, none⟩ = some (.func (.func 69) #[] #[]) ∧ w'.cell? ⟨g, 2, none⟩ = some (.func (.func 70) #[] #[]) ∧ w'.cell? ⟨g, 3, none⟩ = some (.func (.func 71) #[] #[]) ∧ w'.cell? ⟨a, off + k * 4, none⟩ = some (.string e0) ∧ w'.cell? ⟨a, off + k * 4 + 1, none⟩ = some (.string e1) ∧ w'.cell? ⟨a, off + k * 4 + 2, none⟩ = some (.int .u32 (e2 : Nat)) ∧ w'.cell? ⟨a, off + k * 4 + 3, none⟩ = some (.int .u32 (e3 : Nat))) (first | exact HQ.out | assumption)
            ((go_at_call 67; refine (cS _).out.mono ?_; clear cS; rintro r v2 ⟨rfl, hg⟩; have HG3 : Hid (Gr wr v2) := (Gr.refl wr).drew.trans hg; have HQ := Lib.hid (And.intro (HG3.out.cells t0) (And.intro (HG3.out.cells t1) (And.intro (HG3.out.cells t2) (And.intro (HG3.out.cells t3) (And.intro (HG3.out.cells a0) (And.intro (HG3.out.cells a1) (And.intro (HG3.out.cells a2) (HG3.out.cells a3)))))))); clear hg))
          go_wp2
          have HT : Hid (Gr w v2 ∧ v2.heap[g]? = some (.cells #[.func (.func 68) #[] #[], .func (.func 69) #[] #[], .func (.func 70) #[] #[], .func (.func 71) #[] #[]] 79 (0, 0))) := ⟨HR.out.1.trans HG3.out, (HG3.out.block (lt_of_row HR.out.2)).trans HR.out.2⟩
          go_roundw
          case rel => exact ⟨k + 1, by omega, by go_num, by rw [HL2.out], by rw [HS2.out, he, HB1.out], by rw [HS2.out, he, HE1.out], HT⟩
          case measure => simp [intOf]; omega
    · have hk2 : k = xs.length - 1 := by omega
      have hk1z : ¬ (k : Int) + 1 < ((xs.length : Nat) : Int) := by omega
      have hA2 : Hid (((hfGo (fun i => lfSum (xs.take i)) all (1, -1) k).1 : Nat) = ans) := by
        unfold Hid; rw [HA.out, HAL.out, hk2]; rfl
      have hA3 := hA2.out
      generalize hfGo (fun i => lfSum (xs.take i)) all (1, -1) k = st at *
      generalize st.1 = b at *
      subst hA3
      go_wp2
      go_ret
      exact ⟨rfl, HR.out.1⟩
end Go.Proofs.Ytmpmfgkabjedpaa
namespace Go.Proofs.Ytmpmfgkabjedpaa
open Go.RowKit
set_option linter.unusedVariables false
set_option linter.unusedSimpArgs false
set_option maxRecDepth 100000
set_option maxHeartbeats 4000000
theorem ki_bd (xs : List Ki) (hl : xs.length ≤ 4000) (hx : ∀ x ∈ xs, kiOk x) : kiSum xs ≤ 241208000 ∧ ∀ i, kiSum (xs.take i) ≤ 241208000 := by
  have h : kiSum xs ≤ xs.length * 60302 := sumB_le (fun x => 2 + (kiB x).size) 60302 xs (fun x hq => by
    have h2 := hx x hq
    show 2 + (kiB x).size ≤ 60302
    obtain ⟨e0, e1⟩ := x
    have h3 := kiBytes_size e0 e1
    show 2 + (kiBytes e0 e1).size ≤ 60302; omega)
  have h4 : xs.length * 60302 ≤ 241208000 := by omega
  refine ⟨by omega, fun i => ?_⟩
  have h5 : kiSum (xs.take i) ≤ kiSum xs := sumB_take (fun x => 2 + (kiB x).size) xs i
  omega
theorem ndki_max (a b : Int) (w : World) : (Builtin.max_ #[3, 3] 3 #[.int .i64 a, .int .i64 b]).run Try.prog w = .ok (.int .i64 (max a b)) w := by
  have h : (Builtin.max_ #[3, 3] 3 #[.int .i64 a, .int .i64 b]).run Try.prog w = .ok (.int .i64 (if b > a then b else a)) w := by kernel_rfl
  rw [h]
  have h2 : (if b > a then b else a) = max a b := by split <;> omega
  rw [h2]
theorem ki_half (A : Option Addr) (cap : Nat) (xs : List Ki) (hcap : xs.length ≤ cap) (hcm : cap ≤ maxLen) (hl : xs.length ≤ 4000) (hx : ∀ x ∈ xs, kiOk x) (w : World) (hs : SliceAt w A 2 kiCell xs) :
    Calls Try.prog 39 #[.agg #[.func (.func 73) #[] #[], .func (.func 76) #[] #[], .func (.func 79) #[] #[], .nilFunc], .slice A xs.length cap] w fun r w' => r = .returned (.int .i64 ((hfAt kiSum xs : Nat) : Int)) ∧ Gr w w' := by
  have hbd := ki_bd xs hl hx
  have HBD := Lib.hid (hfGo_bd (fun i => kiSum (xs.take i)) (kiSum xs) (1, -1) (by simp) (fun i => by have := hbd.2 i; omega) (by have := hbd.1; omega))
  have cS : ∀ w1, SliceAt w1 A 2 kiCell xs → Hid (Calls Try.prog 59 #[.agg #[.func (.func 73) #[] #[], .func (.func 76) #[] #[], .func (.func 79) #[] #[], .nilFunc], .slice A xs.length cap] w1 fun r w' => r = .returned (.int .i64 ((kiSum xs : Nat) : Int)) ∧ Gr w1 w') := fun w1 h => ki_sum A cap xs hcap hcm hl hx w1 h
  unfold maxLen at hcm
  obtain ⟨ans, hans⟩ : ∃ ans, ans = hfAt kiSum xs := ⟨_, rfl⟩
  rw [← hans]
  have HA := Lib.hid hans
  clear hans
  have HX := Lib.hid (And.intro hs hx)
  clear hs hx
  have HBS := Lib.hid hbd
  obtain ⟨all, hall⟩ : ∃ all, all = kiSum xs := ⟨_, rfl⟩
  have hallb : all ≤ 241208000 := by rw [hall]; exact hbd.1
  clear hbd
  rw [← hall] at HBD cS
  have HAL := Lib.hid hall
  clear hall
  have hw0 := Lib.hid (heap_alloc_last w (.cells #[.func (.func 73) #[] #[], .func (.func 76) #[] #[], .func (.func 79) #[] #[], .nilFunc] 87))
  have HW : Hid (Gr w (w.alloc (.cells #[.func (.func 73) #[] #[], .func (.func 76) #[] #[], .func (.func 79) #[] #[], .nilFunc] 87))) := (Gr.refl w).alloc _
  have s0 := row_cell hw0.out 0 _ rfl
  go_enter Try.func39, Try.ntmps39
  go_wp2_with (go_at_call 59; refine (cS _ (HX.out.1.gr HW.out)).out.mono ?_; clear cS; rintro r v1 ⟨rfl, hg⟩; have HV1 : Hid (Gr w v1 ∧ v1.heap[w.heap.size]? = some (.cells #[.func (.func 73) #[] #[], .func (.func 76) #[] #[], .func (.func 79) #[] #[], .nilFunc] 87 (0, 0))) := ⟨HW.out.trans hg, (hg.block (lt_of_row hw0.out)).trans hw0.out⟩; clear hg)
  have HV : Hid (Gr w v1 ∧ v1.heap[w.heap.size]? = some (.cells #[.func (.func 73) #[] #[], .func (.func 76) #[] #[], .func (.func 79) #[] #[], .nilFunc] 87 (0, 0))) := HV1
  clear HV1 HW hw0 s0
  generalize w.heap.size = g at *
  go_loopw [6, 7, 8, 9] (fun lf be le i wr => ∃ k : Nat, k ≤ xs.length - 1 ∧ i = .int .i64 ((k + 1 : Nat) : Int) ∧ lf = .int .i64 ((kiSum (xs.take k) : Nat) : Int) ∧ be = .int .i64 (((hfGo (fun i => kiSum (xs.take i)) all (1, -1) k).1 : Nat) : Int) ∧ le = .int .i64 (hfGo (fun i => kiSum (xs.take i)) all (1, -1) k).2 ∧ Hid (Gr w wr ∧ wr.heap[g]? = some (.cells #[.func (.func 73) #[] #[], .func (.func 76) #[] #[], .func (.func 79) #[] #[], .nilFunc] 87 (0, 0)))) (fun _ _ _ i _ => xs.length - (intOf i).toNat)
  case atStart => exact ⟨0, by omega, rfl, by simp [kiSum], rfl, rfl, HV.out⟩
  case round =>
    obtain ⟨k, hk, rfl, rfl, rfl, rfl, HR⟩ := hrel
    have hbd1 := HBD.out k
    by_cases hlt : k + 1 < xs.length
    · rcases HX.out.1 with h0 | ⟨a, off, rfl, hcell⟩
      · subst h0; simp at hlt
      have hkl : k < xs.length := by omega
      have hget := List.getElem?_eq_getElem hkl
      have hxo := HX.out.2 xs[k] (List.getElem_mem hkl)
      have hsn := kiSum_snoc xs k hkl
      generalize xs[k] = x at *
      obtain ⟨e0, e1⟩ := x
      have a0 := HR.out.1.cells (hcell k _ hget 0 _ rfl)
      have a1 := HR.out.1.cells (hcell k _ hget 1 _ rfl)
      simp only [Nat.add_zero] at a0
      clear hcell hget
      have cS := fun w1 => Lib.hid (ki_size e0 e1 hxo.1 hxo.2 w1)
      simp only [kiB] at hsn
      have hb2 := HBS.out.2 (k + 1)
      have hDe : hfD (fun i => kiSum (xs.take i)) all (k + 1) = max ((kiSum (xs.take (k + 1)) : Int) - ((all : Int) - (kiSum (xs.take (k + 1)) : Int))) ((all : Int) - (kiSum (xs.take (k + 1)) : Int) - (kiSum (xs.take (k + 1)) : Int)) := rfl
      have hpos := hfGo_pos (fun i => kiSum (xs.take i)) all k (1, -1)
      have hneg := hfGo_neg (fun i => kiSum (xs.take i)) all k (1, -1)
      generalize hfD (fun i => kiSum (xs.take i)) all (k + 1) = D at *
      generalize hS2 : hfGo (fun i => kiSum (xs.take i)) all (1, -1) (k + 1) = st2 at *
      have HS2 := Lib.hid hS2
      clear hS2
      generalize hfGo (fun i => kiSum (xs.take i)) all (1, -1) k = st at *
      generalize hL : kiSum (xs.take (k + 1)) = L2 at *
      have HL2 := Lib.hid hL
      clear hL
      generalize kiSum (xs.take k) = L at *
      generalize kiBytes e0 e1 = q at *
      generalize hB : st.1 = b at *
      have HB1 := Lib.hid hB
      clear hB
      generalize hE : st.2 = le at *
      have HE1 := Lib.hid hE
      clear hE
      have hw1 : IntKind.i64.wrap ((L : Int) + (2 + (q.size : Int))) = (L2 : Int) := by rw [IntKind.wrap_i64]; omega
      have hw1b : IntKind.i64.wrap ((L : Int) + ((2 + q.size : Nat) : Int)) = (L2 : Int) := by rw [IntKind.wrap_i64]; omega
      have hw2 : IntKind.i64.wrap ((all : Int) - (L2 : Int)) = (all : Int) - (L2 : Int) := by rw [IntKind.wrap_i64]; omega
      have hw3 : IntKind.i64.wrap ((L2 : Int) - ((all : Int) - (L2 : Int))) = (L2 : Int) - ((all : Int) - (L2 : Int)) := by rw [IntKind.wrap_i64]; omega
      have hw4 : IntKind.i64.wrap ((all : Int) - (L2 : Int) - (L2 : Int)) = (all : Int) - (L2 : Int) - (L2 : Int) := by rw [IntKind.wrap_i64]; omega
      have hwk : IntKind.i64.wrap ((k : Int) + 1 - 1) = (k : Int) := by rw [IntKind.wrap_i64]; omega
      have hwk2 : IntKind.i64.wrap (((k + 1 : Nat) : Int) - 1) = (k : Int) := by rw [IntKind.wrap_i64]; omega
      have hmx : ∀ w1, (Builtin.max_ #[3, 3] 3 #[.int .i64 ((L2 : Int) - ((all : Int) - (L2 : Int))), .int .i64 ((all : Int) - (L2 : Int) - (L2 : Int))]).run Try.prog w1 = .ok (.int .i64 D) w1 := fun w1 => (ndki_max _ _ w1).trans (by rw [hDe])
      have hkt : (k : Int).toNat = k := by omega
      have hk0 : (0 : Int) ≤ (k : Int) := by omega
      have hkz : (k : Int) < ((xs.length : Nat) : Int) := by omega
      have hk1z : (k : Int) + 1 < ((xs.length : Nat) : Int) := by omega
      have HSN := Lib.hid hsn
      have HPN := Lib.hid (And.intro hpos hneg)
      clear hsn hDe hpos hneg
      have t0 := row_cell HR.out.2 0 _ rfl
      have t1 := row_cell HR.out.2 1 _ rfl
      have t2 := row_cell HR.out.2 2 _ rfl
      have t3 := row_cell HR.out.2 3 _ rfl
      have HQ := Lib.hid (And.intro t0 (And.intro t1 (And.intro t2 (And.intro t3 (And.intro a0 a1)))))
      have hwk3 : IntKind.i64.wrap (k : Int) = (k : Int) := by rw [IntKind.wrap_i64]; omega
      have hwk4 : IntKind.i64.wrap ((k : Int) + 1 + 1) = (k : Int) + 1 + 1 := by rw [IntKind.wrap_i64]; omega
      by_cases c1 : le < 0
      · obtain rfl := HPN.out.1 (.inl c1)
        by_cases c2 : D < le
        · go_wp2
          go_region_held3 (fun w' => w'.cell? ⟨g, 0, none⟩ = some (.func (.func 73) #[] #[]) ∧ w'.cell? ⟨g, 1, none⟩ = some (.func (.func 76) #[] #[]) ∧ w'.cell? ⟨g, 2, none⟩ = some (.func (.func 79) #[] #[]) ∧ w'.cell? ⟨g, 3, none⟩ = some (.nilFunc) ∧ w'.cell? ⟨a, off + k * 2, none⟩ = some (.string e0) ∧ w'.cell? ⟨a, off + k * 2 + 1, none⟩ = some (.int .u32 (e1 : Nat))) (first | exact HQ.out | assumption)
            ((go_at_call 72; refine (cS _).out.mono ?_; clear cS; rintro r v2 ⟨rfl, hg⟩; have HG3 : Hid (Gr wr v2) := (Gr.refl wr).drew.trans hg; have HQ := Lib.hid (And.intro (HG3.out.cells t0) (And.intro (HG3.out.cells t1) (And.intro (HG3.out.cells t2) (And.intro (HG3.out.cells t3) (And.intro (HG3.out.cells a0) (HG3.out.cells a1)))))); clear hg))
          go_wp2
          have HT : Hid (Gr w v2 ∧ v2.heap[g]? = some (.cells #[.func (.func 73) #[] #[], .func (.func 76) #[] #[], .func (.func 79) #[] #[], .nilFunc] 87 (0, 0))) := ⟨HR.out.1.trans HG3.out, (HG3.out.block (lt_of_row HR.out.2)).trans HR.out.2⟩
          go_roundw
          case rel => exact ⟨k + 1, by omega, by go_num, by rw [HL2.out], by rw [HS2.out]; simp, by rw [HS2.out], HT⟩
          case measure => simp [intOf]; omega
        · go_wp2
          go_region_held3 (fun w' => w'.cell? ⟨g, 0, none⟩ = some (.func (.func 73) #[] #[]) ∧ w'.cell? ⟨g, 1, none⟩ = some (.func (.func 76) #[] #[]) ∧ w'.cell? ⟨g, 2, none⟩ = some (.func (.func 79) #[] #[]) ∧ w'.cell? ⟨g, 3, none⟩ = some (.nilFunc) ∧ w'.cell? ⟨a, off + k * 2, none⟩ = some (.string e0) ∧ w'.cell? ⟨a, off + k * 2 + 1, none⟩ = some (.int .u32 (e1 : Nat))) (first | exact HQ.out | assumption)
            ((go_at_call 72; refine (cS _).out.mono ?_; clear cS; rintro r v2 ⟨rfl, hg⟩; have HG3 : Hid (Gr wr v2) := (Gr.refl wr).drew.trans hg; have HQ := Lib.hid (And.intro (HG3.out.cells t0) (And.intro (HG3.out.cells t1) (And.intro (HG3.out.cells t2) (And.intro (HG3.out.cells t3) (And.intro (HG3.out.cells a0) (HG3.out.cells a1)))))); clear hg))
          go_wp2
          have HT : Hid (Gr w v2 ∧ v2.heap[g]? = some (.cells #[.func (.func 73) #[] #[], .func (.func 76) #[] #[], .func (.func 79) #[] #[], .nilFunc] 87 (0, 0))) := ⟨HR.out.1.trans HG3.out, (HG3.out.block (lt_of_row HR.out.2)).trans HR.out.2⟩
          go_roundw
          case rel => exact ⟨k + 1, by omega, by go_num, by rw [HL2.out], by rw [HS2.out]; simp, by rw [HS2.out], HT⟩
          case measure => simp [intOf]; omega
      · by_cases c2 : D < le
        · obtain rfl := HPN.out.1 (.inr c2)
          go_wp2
          go_region_held3 (fun w' => w'.cell? ⟨g, 0, none⟩ = some (.func (.func 73) #[] #[]) ∧ w'.cell? ⟨g, 1, none⟩ = some (.func (.func 76) #[] #[]) ∧ w'.cell? ⟨g, 2, none⟩ = some (.func (.func 79) #[] #[]) ∧ w'.cell? ⟨g, 3, none⟩ = some (.nilFunc) ∧ w'.cell? ⟨a, off + k * 2, none⟩ = some (.string e0) ∧ w'.cell? ⟨a, off + k * 2 + 1, none⟩ = some (.int .u32 (e1 : Nat))) (first | exact HQ.out | assumption)
            ((go_at_call 72; refine (cS _).out.mono ?_; clear cS; rintro r v2 ⟨rfl, hg⟩; have HG3 : Hid (Gr wr v2) := (Gr.refl wr).drew.trans hg; have HQ := Lib.hid (And.intro (HG3.out.cells t0) (And.intro (HG3.out.cells t1) (And.intro (HG3.out.cells t2) (And.intro (HG3.out.cells t3) (And.intro (HG3.out.cells a0) (HG3.out.cells a1)))))); clear hg))
          go_wp2
          have HT : Hid (Gr w v2 ∧ v2.heap[g]? = some (.cells #[.func (.func 73) #[] #[], .func (.func 76) #[] #[], .func (.func 79) #[] #[], .nilFunc] 87 (0, 0))) := ⟨HR.out.1.trans HG3.out, (HG3.out.block (lt_of_row HR.out.2)).trans HR.out.2⟩
          go_roundw
          case rel => exact ⟨k + 1, by omega, by go_num, by rw [HL2.out], by rw [HS2.out]; simp, by rw [HS2.out], HT⟩
          case measure => simp [intOf]; omega
        · have he := HPN.out.2 (fun h => h.elim c1 c2)
          go_wp2
          go_region_held3 (fun w' => w'.cell? ⟨g, 0, none⟩ = some (.func (.func 73) #[] #[]) ∧ w'.cell? ⟨g, 1, none⟩ = some (.func (.func 76) #[] #[]) ∧ w'.cell? ⟨g, 2, none⟩ = some (.func (.func 79) #[] #[]) ∧ w'.cell? ⟨g, 3, none⟩ = some (.nilFunc) ∧ w'.cell? ⟨a, off + k * 2, none⟩ = some (.string e0) ∧ w'.cell? ⟨a, off + k * 2 + 1, none⟩ = some (.int .u32 (e1 : Nat))) (first | exact HQ.out | assumption)
            ((go_at_call 72; refine (cS _).out.mono ?_; clear cS; rintro r v2 ⟨rfl, hg⟩; have HG3 : Hid (Gr wr v2) := (Gr.refl wr).drew.trans hg; have HQ := Lib.hid (And.intro (HG3.out.cells t0) (And.intro (HG3.out.cells t1) (And.intro (HG3.out.cells t2) (And.intro (HG3.out.cells t3) (And.intro (HG3.out.cells a0) (HG3.out.cells a1)))))); clear hg))
          go_wp2
          have HT : Hid (Gr w v2 ∧ v2.heap[g]? = some (.cells #[.func (.func 73) #[] #[], .func (.func 76) #[] #[], .func (.func 79) #[] #[], .nilFunc] 87 (0, 0))) := ⟨HR.out.1.trans HG3.out, (HG3.out.block (lt_of_row HR.out.2)).trans HR.out.2⟩
          go_roundw
          case rel => exact ⟨k + 1, by omega, by go_num, by rw [HL2.out], by rw [HS2.out, he, HB1.out], by rw [HS2.out, he, HE1.out], HT⟩
          case measure => simp [intOf]; omega
    · have hk2 : k = xs.length - 1 := by omega
      have hk1z : ¬ (k : Int) + 1 < ((xs.length : Nat) : Int) := by omega
      have hA2 : Hid (((hfGo (fun i => kiSum (xs.take i)) all (1, -1) k).1 : Nat) = ans) := by
        unfold Hid; rw [HA.out, HAL.out, hk2]; rfl
      have hA3 := hA2.out
      generalize hfGo (fun i => kiSum (xs.take i)) all (1, -1) k = st at *
      generalize st.1 = b at *
      subst hA3
      go_wp2
      go_ret
      exact ⟨rfl, HR.out.1⟩
end Go.Proofs.Ytmpmfgkabjedpaa
