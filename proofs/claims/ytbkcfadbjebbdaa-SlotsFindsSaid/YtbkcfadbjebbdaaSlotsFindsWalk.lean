/- The law SlotsFinds, walked (printed by slfinds_gen.py). -/
import Derived.Test.YtbkcfadbjebbdaaSlNone
import Derived.Test.YtbkcfadbjebbdaaSlLaw2
import Derived.Test.YtbkcfadbjebbdaaSl6L
namespace Go.Proofs.Ytbkcfadbjebbdaa
open Go.RowKit
set_option linter.unusedVariables false
set_option linter.unusedSimpArgs false
set_option maxRecDepth 100000
set_option maxHeartbeats 2000000
/-- the keys rise -/
def Rises {α : Type} (key : α → ByteArray) (xs : List α) : Prop := ∀ i a b, xs[i]? = some a → xs[i + 1]? = some b → SL (key a) (key b) = true
theorem SL_trans {a b c : ByteArray} (h1 : SL a b = true) (h2 : SL b c = true) : SL a c = true := by
  unfold SL at *
  rw [Go.Proofs.bytesLess_eq] at *
  simp only [decide_eq_true_eq] at *
  exact List.lt_trans h1 h2
theorem SL_irr (a : ByteArray) : SL a a = false := by
  unfold SL
  rw [Go.Proofs.bytesLess_eq]
  simp only [decide_eq_false_iff_not]
  exact List.lt_irrefl _
theorem Rises.lt {α : Type} {key : α → ByteArray} {xs : List α} (h : Rises key xs) : ∀ (d i : Nat) (a b : α), xs[i]? = some a → xs[i + d + 1]? = some b → SL (key a) (key b) = true := by
  intro d
  induction d with
  | zero => intro i a b ha hb; exact h i a b ha hb
  | succ d ih =>
    intro i a b ha hb
    have hlt : i + d + 1 < xs.length := by
      have := (List.getElem?_eq_some_iff.1 hb).1; omega
    have hc := List.getElem?_eq_getElem hlt
    exact SL_trans (ih i a _ ha hc) (h (i + d + 1) _ b hc (by rw [← hb]; congr 1))
theorem Rises.lt' {α : Type} {key : α → ByteArray} {xs : List α} (h : Rises key xs) {i j : Nat} {a b : α} (hij : i < j) (ha : xs[i]? = some a) (hb : xs[j]? = some b) : SL (key a) (key b) = true :=
  h.lt (j - i - 1) i a b ha (by rw [show i + (j - i - 1) + 1 = j by omega]; exact hb)
theorem Rises.mono {α : Type} {key : α → ByteArray} {xs : List α} (h : Rises key xs) (k : ByteArray) (a b : Nat) (x y : α) (hab : a ≤ b) (hx : xs[a]? = some x) (hy : xs[b]? = some y) (hs : Op.bytesLess (key x).toList k.toList = false) : Op.bytesLess (key y).toList k.toList = false := by
  rcases Nat.lt_or_eq_of_le hab with hlt | rfl
  · cases hc : Op.bytesLess (key y).toList k.toList with
    | false => rfl
    | true =>
      have h1 := SL_trans (h.lt' hlt hx hy) hc
      unfold SL at h1
      rw [hs] at h1; cases h1
  · rw [hx] at hy; cases hy; exact hs
theorem Rises.at {α : Type} {key : α → ByteArray} {xs : List α} (h : Rises key xs) (k : ByteArray) (i : Nat) (x : α) (hx : xs[i]? = some x) : decide (i < fdAt key xs k) = Op.bytesLess (key x).toList k.toList := by
  have hlt := (List.getElem?_eq_some_iff.1 hx).1
  cases hb : Op.bytesLess (key x).toList k.toList with
  | true =>
    rw [decide_eq_true_eq]
    rcases Nat.lt_or_ge i (fdAt key xs k) with h1 | h1
    · exact h1
    · have hd : fdAt key xs k < xs.length := by omega
      have hp : (!Op.bytesLess (key xs[fdAt key xs k]).toList k.toList) = true := List.findIdx_getElem (w := hd)
      have h2 := h.mono k _ _ _ _ h1 (List.getElem?_eq_getElem hd) hx (by simpa using hp)
      rw [h2] at hb; cases hb
  | false =>
    rw [decide_eq_false_iff_not]
    intro h1
    have := List.not_of_lt_findIdx h1
    rw [(List.getElem?_eq_some_iff.1 hx).2] at this
    simp [hb] at this
theorem Rises.is {α : Type} {key : α → ByteArray} {xs : List α} (h : Rises key xs) (k : ByteArray) (i : Nat) (x : α) (hx : xs[i]? = some x) : (decide (i = fdAt key xs k) && fdIs key xs k) = ((key x).toList == k.toList) := by
  by_cases he : i = fdAt key xs k
  · unfold fdIs
    rw [← he, hx]
    simp
  · have h1 := h.at k i x hx
    rw [decide_eq_false he, Bool.false_and]
    symm
    rw [beq_eq_false_iff_ne]
    intro hk
    have hn : Op.bytesLess (key x).toList k.toList = false := by
      rw [hk]; have := SL_irr k; exact this
    rw [hn, decide_eq_false_iff_not] at h1
    have hlt := (List.getElem?_eq_some_iff.1 hx).1
    have hd : fdAt key xs k < xs.length := by omega
    have h2 := h.lt' (show fdAt key xs k < i by omega) (List.getElem?_eq_getElem hd) hx
    have hp : (!Op.bytesLess (key xs[fdAt key xs k]).toList k.toList) = true := List.findIdx_getElem (w := hd)
    unfold SL at h2
    rw [hk] at h2
    have : Op.bytesLess (key xs[fdAt key xs k]).toList k.toList = false := by simpa using hp
    rw [this] at h2; cases h2
theorem walk_SlotsFinds_ (A : Option Addr) (cap : Nat) (xs : List Ce) (hcap : xs.length ≤ cap) (hcm : cap ≤ maxLen) (hu : ∀ x ∈ xs, ceU x) (key : ByteArray) (w : World) (hs : SliceAt w A 4 ceCell xs) :
    Calls Try.prog 7 #[.slice A xs.length cap, .string key] w fun e w' => e = .returned (.bool true) ∧ Gr w w' := by
  have cA := fun w1 => Lib.hid (law06_awake w1)
  have cF := fun w1 (h : SliceAt w1 A 4 ceCell xs) => Lib.hid (law_few A cap xs hcap hcm w1 h)
  by_cases hf : fewB xs = true
  case neg =>
    have hf2 : fewB xs = false := by simpa using hf
    rw [hf2] at cF
    clear hf hf2
    have HX := Lib.hid hs
    clear hs
    go_enter Try.func7, Try.ntmps7
    go_wp2_with (first
      | (go_at_call 12; refine (cA _).out.mono ?_; rintro r v1 ⟨rfl, hg⟩; have HG := Lib.hid hg; clear hg)
      | (go_at_call 13; refine (cF _ (HX.out.gr HG.out)).out.mono ?_; rintro r v2 ⟨rfl, hg⟩; have HG2 := Lib.hid (HG.out.trans hg); clear hg))
    go_ret
    exact ⟨rfl, HG2.out⟩
  rw [hf] at cF
  obtain ⟨hl, hfew⟩ := fewB_true hf
  have HL := Lib.hid hcm
  unfold maxLen at hcm
  clear hf hfew hu
  have HX := Lib.hid hs
  clear hs
  go_enter Try.func7, Try.ntmps7
  go_wp2_with (first
    | (go_at_call 12; refine (cA _).out.mono ?_; clear cA; rintro r v1 ⟨rfl, hg⟩; have HG := Lib.hid hg; clear hg)
    | (go_at_call 13; refine (cF _ (HX.out.gr HG.out)).out.mono ?_; clear cF; rintro r v2 ⟨rfl, hg⟩; have HG2 := Lib.hid (HG.out.trans hg); clear hg))
  clear HG
  generalize v2 = W at *
  go_loopw [5] (fun i wr => ∃ k : Nat, 1 ≤ k ∧ k ≤ xs.length + 1 ∧ i = .int .i64 (k : Nat) ∧ Hid (Gr w wr ∧ ∀ i a b, i + 1 < k → xs[i]? = some a → xs[i + 1]? = some b → SL a.1 b.1 = true)) (fun i _ => xs.length + 1 - (intOf i).toNat)
  case atStart => exact ⟨1, by omega, by omega, rfl, HG2.out, fun i a b h => by omega⟩
  case round =>
    obtain ⟨k, hk1, hk, rfl, HR⟩ := hrel
    by_cases hlt : k < xs.length
    · rcases HX.out with h0 | ⟨a, off, rfl, hcell⟩
      · subst h0; simp at hlt
      obtain ⟨j, rfl⟩ : ∃ j, k = j + 1 := ⟨k - 1, by omega⟩
      have hlj : j < xs.length := by omega
      have hget := List.getElem?_eq_getElem hlt
      have hgej := List.getElem?_eq_getElem hlj
      generalize xs[j + 1] = x at *
      generalize xs[j] = y at *
      obtain ⟨e0, e1, e2, e3⟩ := x
      obtain ⟨f0, f1, f2, f3⟩ := y
      have a0 := HR.out.1.cells (hcell (j + 1) _ hget 0 _ rfl)
      have b0 := HR.out.1.cells (hcell j _ hgej 0 _ rfl)
      simp only [Nat.add_zero] at a0 b0
      have HC := Lib.hid (And.intro hcell (And.intro hget hgej))
      clear hcell hget hgej
      have hj1 : (((j + 1 : Nat) : Int) - 1) = (j : Int) := by omega
      have hj2 : (((j + 1 : Nat) : Int) - 1).toNat = j := by omega
      have hix : (j : Int) < (xs.length : Int) := by omega
      cases hb : Op.bytesLess f0.toList e0.toList with
      | false =>
        go_wp2
        go_quiet (fail)
        go_wp2
        go_ret
        exact ⟨rfl, HR.out.1.drewN _⟩
      | true =>
        go_wp2
        go_quiet (fail)
        have HT : Hid (Gr w (wr.drewN nq) ∧ ∀ i a b, i + 1 < j + 1 + 1 → xs[i]? = some a → xs[i + 1]? = some b → SL a.1 b.1 = true) := by
          refine ⟨HR.out.1.drewN _, fun i a b h h1 h2 => ?_⟩
          by_cases he : i = j
          · subst he
            rw [HC.out.2.2] at h1
            rw [HC.out.2.1] at h2
            cases h1; cases h2; exact hb
          · exact HR.out.2 i a b (by omega) h1 h2
        go_wp2
        go_roundw
        case rel => exact ⟨j + 1 + 1, by omega, by omega, by go_num, HT⟩
        case measure => simp [intOf]; omega
    · have HRi : Hid (Rises (fun x : Ce => x.1) xs ∧ Gr w wr) := by
        refine ⟨fun i a b h1 h2 => HR.out.2 i a b ?_ h1 h2, HR.out.1⟩
        have := (List.getElem?_eq_some_iff.1 h2).1; omega
      clear HR HG2
      have cD := fun w1 (h : SliceAt w1 A 4 ceCell xs) => Lib.hid (lf_find A cap xs hcap HL.out key (HRi.out.1.mono key) (by omega) w1 h)
      have HAT := Lib.hid (HRi.out.1.at key)
      have HIS := Lib.hid (HRi.out.1.is key)
      have hdl := fdAt_le (fun x : Ce => x.1) xs key
      generalize fdAt (fun x : Ce => x.1) xs key = d at *
      generalize fdIs (fun x : Ce => x.1) xs key = ok at *
      go_wp2_with (go_at_call 14; refine (sl_leaves _).mono ?_; rintro r v3 ⟨rfl, hg⟩; have HG3 : Hid (Gr w v3) := HRi.out.2.trans hg; clear hg)
      have HZ : Hid (Gr w (v3.alloc (.cells #[.func (.func 71) #[] #[], .func (.func 72) #[] #[], .func (.func 73) #[] #[], .func (.func 74) #[] #[]] 29)) ∧ SliceAt (v3.alloc (.cells #[.func (.func 71) #[] #[], .func (.func 72) #[] #[], .func (.func 73) #[] #[], .func (.func 74) #[] #[]] 29)) A 4 ceCell xs) := ⟨HG3.out.alloc _, HX.out.gr (HG3.out.alloc _)⟩
      clear HG3
      generalize v3.alloc (.cells #[.func (.func 71) #[] #[], .func (.func 72) #[] #[], .func (.func 73) #[] #[], .func (.func 74) #[] #[]] 29) = V at *
      generalize v3.heap.size = bs at *
      go_wp2_with (go_at_call 40; refine (cD _ HZ.out.2).out.mono ?_; clear cD; rintro r v4 ⟨rfl, hg⟩; have HG4 : Hid (Gr w v4) := HZ.out.1.trans hg; clear hg)
      clear HZ HRi
      have Hwr : True := trivial
      obtain ⟨wo, hwo⟩ : ∃ wo : World, wo = wr := ⟨_, rfl⟩
      clear hwo
      go_loopw [51] (fun i wl => ∃ k : Nat, k ≤ xs.length ∧ i = .int .i64 (k : Nat) ∧ Hid (Gr w wl)) (fun i _ => xs.length - (intOf i).toNat)
      case atStart => exact ⟨0, by omega, rfl, HG4.out⟩
      case round =>
        obtain ⟨m, hm, rfl, HR⟩ := hrel
        clear hlt hk hk1
        by_cases hlt : m < xs.length
        · rcases HX.out with h0 | ⟨a, off, rfl, hcell⟩
          · subst h0; simp at hlt
          have hget := List.getElem?_eq_getElem hlt
          generalize xs[m] = x at *
          have q1 := HAT.out m x hget
          have q2 := HIS.out m x hget
          obtain ⟨e0, e1, e2, e3⟩ := x
          have a0 := HR.out.cells (hcell m _ hget 0 _ rfl)
          have a1 := HR.out.cells (hcell m _ hget 1 _ rfl)
          have a2 := HR.out.cells (hcell m _ hget 2 _ rfl)
          have a3 := HR.out.cells (hcell m _ hget 3 _ rfl)
          simp only [Nat.add_zero] at a0
          simp only at q1 q2
          have HC := Lib.hid (And.intro hcell hget)
          clear hcell hget
          have HT : Hid (Gr w (wr.alloc (.cells #[.string e0, .string e1, .int .u32 (e2 : Nat), .int .u32 (e3 : Nat)] 42))) := HR.out.alloc _
          cases hb : Op.bytesLess e0.toList key.toList with
          | true =>
            have hmd : (m : Int) < (d : Int) := by rw [hb] at q1; simpa using q1
            have hne : ¬ (m : Int) = (d : Int) := by omega
            have heq : (e0.toList == key.toList) = false := by rw [← q2, decide_eq_false (by omega)]; rfl
            clear q1 q2
            go_wp2
            go_roundw
            case rel => exact ⟨m + 1, by omega, by go_num, HT⟩
            case measure => simp [intOf]; omega
          | false =>
            have hmd : ¬ (m : Int) < (d : Int) := by
              rw [hb] at q1
              have : ¬ m < d := by simpa using q1
              omega
            by_cases hmd2 : m = d
            · subst hmd2
              have hok : ok = (e0.toList == key.toList) := by rw [← q2]; simp
              clear q1 q2
              subst hok
              go_wp2
              go_roundw
              case rel => exact ⟨m + 1, by omega, by go_num, HT⟩
              case measure => simp [intOf]; omega
            · have hne : ¬ (m : Int) = (d : Int) := by omega
              have heq : (e0.toList == key.toList) = false := by rw [← q2, decide_eq_false hmd2]; rfl
              clear q1 q2
              go_wp2
              go_roundw
              case rel => exact ⟨m + 1, by omega, by go_num, HT⟩
              case measure => simp [intOf]; omega
        · obtain rfl : m = xs.length := by omega
          have HW1 : Hid (Gr w (wr.alloc (.cells #[.nilFunc, .nilFunc, .nilFunc, .nilFunc] 93)) ∧ (wr.alloc (.cells #[.nilFunc, .nilFunc, .nilFunc, .nilFunc] 93)).heap[wr.heap.size]? = some (.cells #[.nilFunc, .nilFunc, .nilFunc, .nilFunc] 93 (0, 0))) := ⟨HR.out.alloc _, heap_alloc_last wr _⟩
          have cO := fun w1 => Lib.hid (oct_one 1 (by omega) w1)
          have e1 : ((1 : Nat) : Int) = 1 := rfl
          have e2 : B (Oct.be 1 1) = ⟨#[1]⟩ := by decide
          rw [e1, e2] at cO
          clear e1 e2
          have hd0 : ¬ (d : Int) < 0 := by omega
          have hd1 : (0 : Int) ≤ (d : Int) := by omega
          have hd2 : (d : Int) ≤ (xs.length : Int) := by omega
          have cB := fun A w1 => Lib.hid (no_body A w1)
          have cR := fun w1 => Lib.hid (no_read w1)
          have cI := fun A w1 => Lib.hid (no_find A .empty w1)
          have cZ := fun w1 => Lib.hid (no_size w1)
          clear HAT HIS HR HX
          go_wp2_with (fail)
          have hh := heap_alloc_last wr (.cells #[.nilFunc, .nilFunc, .nilFunc, .nilFunc] 93)
          have HM : Hid (Gr w ((wr.alloc (.cells #[.nilFunc, .nilFunc, .nilFunc, .nilFunc] 93)).alloc (.cells #[.int .i64 1] 3)) ∧ ((wr.alloc (.cells #[.nilFunc, .nilFunc, .nilFunc, .nilFunc] 93)).alloc (.cells #[.int .i64 1] 3)).heap[wr.heap.size]? = some (.cells #[.nilFunc, .nilFunc, .nilFunc, .nilFunc] 93 (0, 0))) := ⟨HW1.out.1.alloc _, (((Gr.refl _).alloc _).block (lt_of_row hh)).trans hh⟩
          clear HW1 hh
          generalize (wr.alloc (.cells #[.nilFunc, .nilFunc, .nilFunc, .nilFunc] 93)).alloc (.cells #[.int .i64 1] 3) = W2 at *
          generalize wr.heap.size = g at *
          go_wp2_with (first
            | (go_at_call 41; refine (cB _ _).out.mono ?_; clear cB; rintro r v5 ⟨rfl, hg⟩; have HM1 : Hid (Gr w v5 ∧ v5.heap[g]? = some (.cells #[.nilFunc, .nilFunc, .nilFunc, .nilFunc] 93 (0, 0))) := ⟨HM.out.1.trans hg, (hg.block (lt_of_row HM.out.2)).trans HM.out.2⟩; have n0 := row_cell HM1.out.2 0 _ rfl; have n1 := row_cell HM1.out.2 1 _ rfl; have n2 := row_cell HM1.out.2 2 _ rfl; have n3 := row_cell HM1.out.2 3 _ rfl; clear hg)
            | (go_at_call 42; refine (cR _).out.mono ?_; clear cR; rintro r v6 ⟨rfl, hg⟩; have HM2 : Hid (Gr w v6 ∧ v6.heap[g]? = some (.cells #[.nilFunc, .nilFunc, .nilFunc, .nilFunc] 93 (0, 0))) := ⟨HM1.out.1.trans hg, (hg.block (lt_of_row HM1.out.2)).trans HM1.out.2⟩; have n0 := row_cell HM2.out.2 0 _ rfl; have n1 := row_cell HM2.out.2 1 _ rfl; have n2 := row_cell HM2.out.2 2 _ rfl; have n3 := row_cell HM2.out.2 3 _ rfl; clear hg)
            | (go_at_call 43; refine (cI _ _).out.mono ?_; clear cI; rintro r v7 ⟨rfl, hg⟩; have HM3 : Hid (Gr w v7 ∧ v7.heap[g]? = some (.cells #[.nilFunc, .nilFunc, .nilFunc, .nilFunc] 93 (0, 0))) := ⟨(HM2.out.1.alloc _).trans hg, (hg.block (lt_of_row ((((Gr.refl _).alloc _).block (lt_of_row HM2.out.2)).trans HM2.out.2))).trans ((((Gr.refl _).alloc _).block (lt_of_row HM2.out.2)).trans HM2.out.2)⟩; have n0 := row_cell HM3.out.2 0 _ rfl; have n1 := row_cell HM3.out.2 1 _ rfl; have n2 := row_cell HM3.out.2 2 _ rfl; have n3 := row_cell HM3.out.2 3 _ rfl; clear hg)
            | (go_at_call 44; refine (cZ _).out.mono ?_; clear cZ; rintro r v8 ⟨rfl, hg⟩; have HM4 : Hid (Gr w v8) := HM3.out.1.trans hg; clear hg)
            | (go_at_call 45; refine (cO _).out.mono ?_; clear cO; rintro r v9 ⟨rfl, hg⟩; have HM5 : Hid (Gr w v9) := HM4.out.trans hg; clear hg))
          go_ret
          exact ⟨rfl, HM5.out⟩
end Go.Proofs.Ytbkcfadbjebbdaa
