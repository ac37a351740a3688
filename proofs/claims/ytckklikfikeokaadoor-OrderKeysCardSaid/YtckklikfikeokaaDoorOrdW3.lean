/- Layer 4: two parts, two rows compared; what the laws call (printed by ordw3_gen.py). -/
import Derived.Test.YtckklikfikeokaaDoorOrdW2
import Derived.Test.YtckklikfikeokaaDoorOwn2
namespace Go.Proofs.YtckklikfikeokaaDoor
open Go.RowKit
set_option linter.unusedVariables false
set_option linter.unusedSimpArgs false
set_option maxRecDepth 100000
set_option maxHeartbeats 4000000
theorem bl_lists (s t : ByteArray) : Op.bytesLess s.toList t.toList = decide (s.data.toList < t.data.toList) := by
  rw [Go.Proofs.bytesLess_eq, ByteArray.toList_eq, ByteArray.toList_eq]
theorem or_compare (p q : Pa) (w : World) :
    Calls Tryd.prog 38 #[.agg #[.bool p.1, .int .u64 (p.2.1 : Nat), .string p.2.2], .agg #[.bool q.1, .int .u64 (q.2.1 : Nat), .string q.2.2]] w fun r w' => r = .returned (.int .i64 (sgn (paLt p q) (paLt q p))) ∧ Gr w w' := by
  obtain ⟨t, n, s⟩ := p
  obtain ⟨u, m, r⟩ := q
  have HW : Hid (Gr w ((w.alloc (.cells #[.bool t, .int .u64 (n : Nat), .string s] 30)).alloc (.cells #[.bool u, .int .u64 (m : Nat), .string r] 30))) := ((Gr.refl w).alloc _).alloc _
  have h0 := (((Gr.refl _).alloc (.cells #[.bool u, .int .u64 (m : Nat), .string r] 30)).block (k := w.heap.size) (by rw [show (w.alloc (.cells #[.bool t, .int .u64 (n : Nat), .string s] 30)).heap.size = w.heap.size + 1 from alloc_size _ _]; omega)).trans (heap_alloc_last w (.cells #[.bool t, .int .u64 (n : Nat), .string s] 30))
  have h1 := heap_alloc_last (w.alloc (.cells #[.bool t, .int .u64 (n : Nat), .string s] 30)) (.cells #[.bool u, .int .u64 (m : Nat), .string r] 30)
  rw [alloc_size] at h1
  have cS := fun w1 => Lib.hid (cmp_str s r w1)
  have cU := fun w1 => Lib.hid (cmp_u64 n m w1)
  rw [bl_lists, bl_lists] at cS
  cases t <;> cases u
  · have hv : Hid (sgn (paLt (false, n, s) (false, m, r)) (paLt (false, m, r) (false, n, s)) = sgn (decide (n < m)) (decide (m < n))) := by unfold Hid; simp [paLt]
    generalize sgn (paLt (false, n, s) (false, m, r)) (paLt (false, m, r) (false, n, s)) = val at *
    generalize sgn (decide (n < m)) (decide (m < n)) = val2 at *
    obtain rfl := hv.out
    go_enter Tryd.func38, Tryd.ntmps38
    go_wp2_with (go_at_call 53; refine (cU _).out.mono ?_; rintro r1 v ⟨rfl, rfl⟩)
    go_ret
    exact ⟨rfl, HW.out⟩
  · have hv : Hid (sgn (paLt (false, n, s) (true, m, r)) (paLt (true, m, r) (false, n, s)) = -1) := by unfold Hid; simp [paLt, sgn]
    generalize sgn (paLt (false, n, s) (true, m, r)) (paLt (true, m, r) (false, n, s)) = val at *
    obtain rfl := hv.out
    go_enter Tryd.func38, Tryd.ntmps38
    go_wp2
    go_ret
    exact ⟨rfl, HW.out⟩
  · have hv : Hid (sgn (paLt (true, n, s) (false, m, r)) (paLt (false, m, r) (true, n, s)) = 1) := by unfold Hid; simp [paLt, sgn]
    generalize sgn (paLt (true, n, s) (false, m, r)) (paLt (false, m, r) (true, n, s)) = val at *
    obtain rfl := hv.out
    go_enter Tryd.func38, Tryd.ntmps38
    go_wp2
    go_ret
    exact ⟨rfl, HW.out⟩
  · have hv : Hid (sgn (paLt (true, n, s) (true, m, r)) (paLt (true, m, r) (true, n, s)) = sgn (decide (s.data.toList < r.data.toList)) (decide (r.data.toList < s.data.toList))) := by unfold Hid; simp [paLt]
    generalize sgn (paLt (true, n, s) (true, m, r)) (paLt (true, m, r) (true, n, s)) = val at *
    generalize sgn (decide (s.data.toList < r.data.toList)) (decide (r.data.toList < s.data.toList)) = val2 at *
    obtain rfl := hv.out
    go_enter Tryd.func38, Tryd.ntmps38
    go_wp2_with (go_at_call 52; refine (cS _).out.mono ?_; rintro r1 v ⟨rfl, rfl⟩)
    go_ret
    exact ⟨rfl, HW.out⟩
theorem row_snoc (l a b : List Pa) (p q : Pa) (h : p ≠ q) : rowLt (l ++ p :: a) (l ++ q :: b) = paLt p q := by
  induction l with
  | nil => simp [rowLt, h]
  | cons x l ih => simp [rowLt, ih]
theorem sgn_eq {p q : Pa} (hp : isPlain p) (hq : isPlain q) (h : sgn (paLt p q) (paLt q p) = 0) : p = q := by
  obtain ⟨t, n, s⟩ := p
  obtain ⟨u, m, r⟩ := q
  have ht : ∀ (a b : List UInt8), ¬ a < b → ¬ b < a → a = b := fun a b h1 h2 => by
    rcases List.le_iff_lt_or_eq.1 (List.not_lt.1 h1) with h | h
    · exact absurd h h2
    · exact h.symm
  have hz : paLt (t, n, s) (u, m, r) = false ∧ paLt (u, m, r) (t, n, s) = false := by
    cases h1 : paLt (t, n, s) (u, m, r) <;> cases h2 : paLt (u, m, r) (t, n, s) <;> rw [h1, h2] at h <;> first | exact ⟨rfl, rfl⟩ | (simp [sgn] at h)
  cases t <;> cases u
  · simp only [isPlain, Bool.false_eq_true, if_false] at hp hq
    subst hp hq
    simp [paLt] at hz
    have : n = m := by omega
    rw [this]
  · simp [paLt] at hz
  · simp [paLt] at hz
  · simp only [isPlain, if_true] at hp hq
    subst hp hq
    simp only [paLt, if_true, decide_eq_false_iff_not] at hz
    rw [bytes_ext (ht _ _ hz.1 hz.2)]
theorem or_cf (A1 A2 : Option Addr) (cap1 cap2 : Nat) (a b : List Pa) (h1 : a.length ≤ cap1) (h2 : b.length ≤ cap2) (hm1 : cap1 ≤ maxLen) (hm2 : cap2 ≤ maxLen) (pa : ∀ p ∈ a, isPlain p) (pb : ∀ p ∈ b, isPlain p) (w : World) (hs1 : SliceAt w A1 3 paCell a) (hs2 : SliceAt w A2 3 paCell b) :
    Calls Tryd.prog 37 #[.slice A1 a.length cap1, .slice A2 b.length cap2, .func (.func 38) #[] #[]] w fun r w' => ∃ c : Int, r = .returned (.int .i64 c) ∧ decide (c < 0) = rowLt a b ∧ -1 ≤ c ∧ c ≤ 1 ∧ Gr w w' := by
  unfold maxLen at hm1 hm2
  have HX := Lib.hid (And.intro hs1 (And.intro hs2 (And.intro pa pb)))
  clear hs1 hs2 pa pb
  go_enter Tryd.func37, Tryd.ntmps37
  go_wp2
  go_loopw [13] (fun i wr => ∃ k : Nat, k ≤ a.length ∧ i = .int .i64 (k : Nat) ∧ Hid (Gr w wr ∧ k ≤ b.length ∧ a.take k = b.take k)) (fun i _ => a.length - (intOf i).toNat)
  case atStart => exact ⟨0, by omega, rfl, Gr.refl _, by omega, rfl⟩
  case round =>
    obtain ⟨k, hk, rfl, HR⟩ := hrel
    have hkb := HR.out.2.1
    by_cases hlt : k < a.length
    · rcases HX.out.1 with h0 | ⟨x, off, rfl, hcell⟩
      · subst h0; simp at hlt
      have hget := List.getElem?_eq_getElem hlt
      have hda : a = a.take k ++ a[k] :: a.drop (k + 1) := by rw [← List.drop_eq_getElem_cons hlt, List.take_append_drop]
      have hma := HX.out.2.2.1 a[k] (List.getElem_mem hlt)
      generalize a[k] = p at *
      by_cases hltb : k < b.length
      · rcases HX.out.2.1 with h0 | ⟨y, off2, rfl, hcell2⟩
        · subst h0; simp at hltb
        have hget2 := List.getElem?_eq_getElem hltb
        have hdb : b = b.take k ++ b[k] :: b.drop (k + 1) := by rw [← List.drop_eq_getElem_cons hltb, List.take_append_drop]
        have hmb := HX.out.2.2.2 b[k] (List.getElem_mem hltb)
        have htk : ∀ q, b[k] = q → p = q → a.take (k + 1) = b.take (k + 1) := fun q hq hpq => by
          have e1 : a.take (k + 1) = a.take k ++ [p] := by
            rw [List.take_add_one, hget]; rfl
          have e2 : b.take (k + 1) = b.take k ++ [b[k]] := List.take_succ_eq_append_getElem hltb
          rw [e1, e2, HR.out.2.2, hq, hpq]
        generalize b[k] = q at *
        have htk2 := htk q rfl
        clear htk
        have HLT : Hid (p ≠ q → rowLt a b = paLt p q) := fun hne => by rw [hda, hdb, HR.out.2.2]; exact row_snoc _ _ _ _ _ hne
        have HEQ : Hid (sgn (paLt p q) (paLt q p) = 0 → p = q) := sgn_eq hma hmb
        have HNE : Hid (p = q → sgn (paLt p q) (paLt q p) = 0) := fun h => by
          subst h
          obtain ⟨t, n, s⟩ := p
          cases t <;> simp [paLt, sgn, List.lt_irrefl]
        have HSG : Hid (decide (sgn (paLt p q) (paLt q p) < 0) = paLt p q ∧ -1 ≤ sgn (paLt p q) (paLt q p) ∧ sgn (paLt p q) (paLt q p) ≤ 1) := by
          cases h1 : paLt p q <;> cases h2 : paLt q p <;> refine ⟨?_, ?_, ?_⟩ <;> simp [sgn]
        have HTK := Lib.hid htk2
        have cC := fun w1 => Lib.hid (or_compare p q w1)
        generalize sgn (paLt p q) (paLt q p) = sg at *
        generalize paLt p q = lt at *
        clear htk2 hda hdb hma hmb
        obtain ⟨p0, p1, p2⟩ := p
        obtain ⟨q0, q1, q2⟩ := q
        have a0 := HR.out.1.cells (hcell k _ hget 0 _ rfl)
        have a1 := HR.out.1.cells (hcell k _ hget 1 _ rfl)
        have a2 := HR.out.1.cells (hcell k _ hget 2 _ rfl)
        have b0 := HR.out.1.cells (hcell2 k _ hget2 0 _ rfl)
        have b1 := HR.out.1.cells (hcell2 k _ hget2 1 _ rfl)
        have b2 := HR.out.1.cells (hcell2 k _ hget2 2 _ rfl)
        simp only [Nat.add_zero] at a0 b0
        simp only at cC
        have HGA : Hid (Gr wr (wr.alloc (.cells #[.bool p0, .int .u64 (p1 : Nat), .string p2] 30))) := (Gr.refl wr).alloc _
        have c0 := HGA.out.cells b0
        have c1 := HGA.out.cells b1
        have c2 := HGA.out.cells b2
        clear b0 b1 b2 HGA
        clear hcell hcell2 hget hget2
        have hki : (k : Int) < ((b.length : Nat) : Int) := by omega
        have hki2 : ¬ ((b.length : Nat) : Int) ≤ (k : Int) := by omega
        have HG0 : Hid (Gr w ((wr.alloc (.cells #[.bool p0, .int .u64 (p1 : Nat), .string p2] 30)).alloc (.cells #[.bool q0, .int .u64 (q1 : Nat), .string q2] 30))) := (HR.out.1.alloc _).alloc _
        by_cases hz : sg = 0
        · have HT2 : Hid (a.take (k + 1) = b.take (k + 1)) := HTK.out (HEQ.out hz)
          subst hz
          go_wp2_with (go_at_call 38; refine (cC _).out.mono ?_; clear cC; rintro r v1 ⟨rfl, hg⟩; have HG1 := Lib.hid (HG0.out.trans hg); clear hg)
          have HT : Hid (Gr w v1 ∧ k + 1 ≤ b.length ∧ a.take (k + 1) = b.take (k + 1)) := ⟨HG1.out, by omega, HT2.out⟩
          clear HR HG0 HG1 HT2 HTK HEQ HLT HNE HSG
          go_roundw
          case rel => exact ⟨k + 1, by omega, by go_num, HT⟩
          case measure => simp [intOf]; omega
        · have hnz : (sg != 0) = true := by simpa using hz
          have HL2 := Lib.hid (HLT.out (fun h => hz (HNE.out h)))
          go_wp2_with (go_at_call 38; refine (cC _).out.mono ?_; clear cC; rintro r v1 ⟨rfl, hg⟩; have HG1 := Lib.hid (HG0.out.trans hg); clear hg)
          go_ret
          exact ⟨sg, rfl, HSG.out.1.trans HL2.out.symm, HSG.out.2.1, HSG.out.2.2, HG1.out⟩
      · have hkeq : k = b.length := by omega
        have HLT : Hid (rowLt a b = false) := by
          have hpre : b = a.take k := by rw [HR.out.2.2, hkeq, List.take_length]
          have : a = b ++ a.drop k := by
            conv => lhs; rw [← List.take_append_drop k a]
            rw [← hpre]
          rw [this]; exact rowLt_app' _ _
        obtain ⟨p0, p1, p2⟩ := p
        have a0 := HR.out.1.cells (hcell k _ hget 0 _ rfl)
        have a1 := HR.out.1.cells (hcell k _ hget 1 _ rfl)
        have a2 := HR.out.1.cells (hcell k _ hget 2 _ rfl)
        simp only [Nat.add_zero] at a0
        clear hcell hget hda hma
        have hki : ((b.length : Nat) : Int) ≤ (k : Int) := by omega
        clear hkeq
        go_wp2
        go_ret
        exact ⟨1, rfl, by rw [HLT.out]; rfl, by omega, by omega, HR.out.1.alloc _⟩
    · obtain rfl : k = a.length := by omega
      have hpre : a = b.take a.length := by
        have := HR.out.2.2
        rwa [List.take_length] at this
      have HLT : Hid (rowLt a b = decide (a.length < b.length)) := by
        unfold Hid
        have hb : b = a ++ b.drop a.length := by
          conv => lhs; rw [← List.take_append_drop a.length b]
          rw [← hpre]
        have : rowLt a b = !(b.drop a.length).isEmpty := by
          conv => lhs; rw [hb]
          exact rowLt_app _ _
        rw [this]
        by_cases h : a.length < b.length
        · have h2 : (b.drop a.length).isEmpty = false := by
            rw [List.isEmpty_eq_false_iff]
            intro e
            have := congrArg List.length e
            rw [List.length_drop] at this
            simp at this; omega
          rw [h2]; simp [h]
        · have h2 : b.drop a.length = [] := List.drop_of_length_le (by omega)
          rw [h2]; simp [h]
      clear hpre
      by_cases hl : a.length < b.length
      · have hl2 : ((a.length : Nat) : Int) < ((b.length : Nat) : Int) := by omega
        go_wp2
        go_ret
        exact ⟨-1, rfl, by rw [HLT.out]; simp [hl], by omega, by omega, HR.out.1⟩
      · have hl2 : ¬ ((a.length : Nat) : Int) < ((b.length : Nat) : Int) := by omega
        go_wp2
        go_ret
        exact ⟨0, rfl, by rw [HLT.out]; simp [hl], by omega, by omega, HR.out.1⟩
theorem or_less (A1 A2 : Option Addr) (cap1 cap2 : Nat) (a b : List Pa) (h1 : a.length ≤ cap1) (h2 : b.length ≤ cap2) (hm1 : cap1 ≤ maxLen) (hm2 : cap2 ≤ maxLen) (pa : ∀ p ∈ a, isPlain p) (pb : ∀ p ∈ b, isPlain p) (w : World) (hs1 : SliceAt w A1 3 paCell a) (hs2 : SliceAt w A2 3 paCell b) :
    Calls Tryd.prog 19 #[.slice A1 a.length cap1, .slice A2 b.length cap2] w fun r w' => r = .returned (.bool (rowLt a b)) ∧ Gr w w' := by
  have c := Lib.hid (or_cf A1 A2 cap1 cap2 a b h1 h2 hm1 hm2 pa pb w hs1 hs2)
  clear hs1 hs2 pa pb
  generalize rowLt a b = lt at *
  go_enter Tryd.func19, Tryd.ntmps19
  go_wp2_with (go_at_call 37; refine c.out.mono ?_; clear c; rintro r v1 ⟨sg, rfl, hd, hlo, hhi, hg⟩; have HD := Lib.hid (And.intro hd hg); clear hd hg)
  go_ret
  exact ⟨ret_bool HD.out.1, HD.out.2⟩
end Go.Proofs.YtckklikfikeokaaDoor
