/- The law CrcThings, walked. -/
import Derived.Test.YtlkkgnidcgochaaCrcSummer2
import Derived.Test.YtlkkgnidcgochaaShelf
namespace Go.Proofs.Ytlkkgnidcgochaa
open Go.RowKit
set_option linter.unusedVariables false
set_option linter.unusedSimpArgs false
set_option maxRecDepth 100000
theorem flatN_length (ns : List Nat) : (flatN ns).length = 2 * ns.length := by
  induction ns with
  | nil => rfl
  | cons n ns ih => unfold flatN at ih ⊢; rw [List.flatMap_cons, List.length_append, ih, Oct.be_length, List.length_cons]; omega
theorem flatN_snoc (ns : List Nat) (k : Nat) (h : k < ns.length) : B (flatN (ns.take (k + 1))) = B (flatN (ns.take k)) ++ B (Oct.be ns[k] 2) := by
  rw [B_app, List.take_succ_eq_append_getElem h]
  unfold flatN
  rw [List.flatMap_append]
  congr 2
theorem join_flat (xs : List ByteArray) : Lib.join (xs.map (·.data.toList)) [] = flat xs := by
  unfold Lib.join flat
  induction xs with
  | nil => rfl
  | cons x xs ih =>
    cases xs with
    | nil => simp [List.intercalate]
    | cons y ys =>
      simp only [List.map_cons, List.flatMap_cons] at ih ⊢
      rw [← ih]
      simp [List.intercalate, List.intersperse]
theorem flat_len (xs : List ByteArray) (n : Nat) (h : ∀ x ∈ xs, x.size ≤ n) : (flat xs).length ≤ xs.length * n := by
  unfold flat
  induction xs with
  | nil => simp
  | cons x xs ih =>
    have h1 := h x (by simp)
    have h2 := ih fun y hy => h y (by simp [hy])
    rw [List.flatMap_cons, List.length_append, List.length_cons, Nat.succ_mul]
    have h3 : x.data.toList.length = x.size := by simp
    omega
theorem join_any (A : Option Addr) (cap : Nat) (xs : List ByteArray) (hcap : xs.length ≤ cap) (hl : xs.length ≤ 100) (hsz : ∀ x ∈ xs, x.size ≤ 1000) (w : World) (hx : SliceAt w A 1 strCell xs) :
    Calls Try.prog 51 #[.slice A xs.length cap, .string ⟨#[]⟩] w fun e w' => e = .returned (.string (B (flat xs))) ∧ Gr w w' := by
  have hfl := flat_len xs 1000 hsz
  cases xs with
  | nil =>
    refine (Try.strings_Join_none A cap ⟨#[]⟩ w).mono ?_
    rintro e w1 ⟨rfl, rfl⟩
    exact ⟨rfl, Gr.refl _⟩
  | cons y ys =>
    rcases hx with h0 | ⟨a, off, rfl, hcell⟩
    · cases h0
    · have hc : ∀ (j : Nat) x, (y :: ys)[j]? = some x → w.cell? ⟨a, off + j, none⟩ = some (.string x) := fun j x hj => by
        have := hcell j x hj 0 _ rfl
        simpa using this
      refine (Try.strings_Join a off cap (y :: ys) ⟨#[]⟩ w hc (block_lt_of_cell (hc 0 y rfl)) (by omega) hcap (by rw [show ((⟨#[]⟩ : ByteArray).data.toList) = [] from rfl, join_flat]; omega)).mono ?_
      rintro e w1 ⟨rfl, hb⟩
      refine ⟨?_, hb⟩
      rw [show ((⟨#[]⟩ : ByteArray).data.toList) = [] from rfl, join_flat]
      rfl
theorem ref_of_eq (s : ByteArray) (l : List UInt8) (hs : s.size ≤ maxLen) (h : Crc.add Crc.byt 0 s.data.toList = Crc.add Crc.byt 0 l) (w : World) :
    Calls Try.prog 19 #[.string s] w fun e w' => e = .returned (.int .u32 (Crc.add Crc.byt 0 l : Nat)) ∧ w = w' := by
  rw [← h]; exact ref_of s hs w
theorem six_gr {w w' : World} {a b c d e f : Addr} {u1 u2 u3 u4 u5 u6 : Value} (h : w.cell? a = some u1 ∧ w.cell? b = some u2 ∧ w.cell? c = some u3 ∧ w.cell? d = some u4 ∧ w.cell? e = some u5 ∧ w.cell? f = some u6) (g : Gr w w') :
    w'.cell? a = some u1 ∧ w'.cell? b = some u2 ∧ w'.cell? c = some u3 ∧ w'.cell? d = some u4 ∧ w'.cell? e = some u5 ∧ w'.cell? f = some u6 :=
  ⟨g.cells h.1, g.cells h.2.1, g.cells h.2.2.1, g.cells h.2.2.2.1, g.cells h.2.2.2.2.1, g.cells h.2.2.2.2.2⟩
set_option maxHeartbeats 4000000 in
theorem walk_CrcThings_ (A : Option Addr) (cap : Nat) (xs : List ByteArray) (hcap : xs.length ≤ cap) (hcm : cap ≤ maxLen) (hsz : ∀ x ∈ xs, x.size ≤ maxLen)
    (A2 : Option Addr) (cap2 : Nat) (ns : List Nat) (hcap2 : ns.length ≤ cap2) (hcm2 : cap2 ≤ maxLen) (hns : ∀ x ∈ ns, x < 65536) (w : World) (hx : SliceAt w A 1 strCell xs) (hy : SliceAt w A2 1 u16Cell ns) :
    Calls Try.prog 11 #[.slice A xs.length cap, .slice A2 ns.length cap2] w fun e w' => e = .returned (.bool true) ∧ Gr w w' := by
  have hm1 := hcm
  have hm2 := hcm2
  unfold maxLen at hm1 hm2
  have hz := Lib.hid Crc.zsize
  by_cases h1 : 100 < xs.length
  · go_enter Try.func11, Try.ntmps11
    go_wp2_with (go_at_call 13; refine (law01_awake _).mono ?_; rintro e w1 ⟨rfl, hb⟩)
    all_goals go_ret
    all_goals exact ⟨rfl, hb⟩
  · by_cases h2 : 100 < ns.length
    · go_enter Try.func11, Try.ntmps11
      go_wp2_with (go_at_call 13; refine (law01_awake _).mono ?_; rintro e w1 ⟨rfl, hb⟩)
      all_goals go_ret
      all_goals exact ⟨rfl, hb⟩
    · have HXY := Lib.hid (And.intro hx (And.intro hy (And.intro hsz hns)))
      clear hx hy hsz hns
      go_enter Try.func11, Try.ntmps11
      go_wp2_with (first
        | (go_at_call 13; refine (law01_awake _).mono ?_; rintro e w1 ⟨rfl, hb⟩)
        | (go_at_call 14; refine (crc_make _).mono ?_; rintro e w2 ⟨rfl, hb2⟩)
        | ((with_reducible show wpList _ _ _ (⟨_, .store 25 _ _, _, _, _, _⟩ :: _) _ _); (refine wpList_store_new rfl 25 (.tmp 5) (.tmp 25) rfl (Crc.tab Crc.byt) rfl rfl 25 Try.zeroCells25 (sz25 _) hz.out (Crc.tab_one _) ?_))
        | (go_at_call 45; refine (crc_over_sf _ _ _).mono ?_; rintro e w3 ⟨rfl, hb3⟩)
        | (go_at_call 48; refine (crc_over_nf _ _ _).mono ?_; rintro e w4 ⟨rfl, hb4⟩))
      have HB : Hid (Crc.At (w4.alloc (.cells #[.pointer (some ⟨w2.heap.size, 0, none⟩), .func (.func 47) #[] #[]] 74)) w2.heap.size Crc.byt
          ∧ (w4.alloc (.cells #[.pointer (some ⟨w2.heap.size, 0, none⟩), .func (.func 47) #[] #[]] 74)).cell? ⟨w3.heap.size, 0, none⟩ = some (.pointer (some ⟨w2.heap.size, 0, none⟩))
          ∧ (w4.alloc (.cells #[.pointer (some ⟨w2.heap.size, 0, none⟩), .func (.func 47) #[] #[]] 74)).cell? ⟨w3.heap.size, 1, none⟩ = some (.func (.func 46) #[] #[])
          ∧ (w4.alloc (.cells #[.pointer (some ⟨w2.heap.size, 0, none⟩), .func (.func 47) #[] #[]] 74)).cell? ⟨w4.heap.size, 0, none⟩ = some (.pointer (some ⟨w2.heap.size, 0, none⟩))
          ∧ (w4.alloc (.cells #[.pointer (some ⟨w2.heap.size, 0, none⟩), .func (.func 47) #[] #[]] 74)).cell? ⟨w4.heap.size, 1, none⟩ = some (.func (.func 47) #[] #[])
          ∧ Gr w (w4.alloc (.cells #[.pointer (some ⟨w2.heap.size, 0, none⟩), .func (.func 47) #[] #[]] 74))) := by
        have k1 := (Gr.refl w4).alloc (.cells #[.pointer (some ⟨w2.heap.size, 0, none⟩), .func (.func 47) #[] #[]] 74)
        have k2 := hb4.trans k1
        have k3 := ((Gr.refl w3).alloc (.cells #[.pointer (some ⟨w2.heap.size, 0, none⟩), .func (.func 46) #[] #[]] 71)).trans k2
        have n4 := heap_alloc_last w4 (.cells #[.pointer (some ⟨w2.heap.size, 0, none⟩), .func (.func 47) #[] #[]] 74)
        have n3 := heap_alloc_last w3 (.cells #[.pointer (some ⟨w2.heap.size, 0, none⟩), .func (.func 46) #[] #[]] 71)
        refine ⟨(Crc.At.new w2 Crc.byt 25).gr (hb3.trans k3), k2.cells (by rw [cell_of_row _ _ 0 _ _ _ n3]; rfl), k2.cells (by rw [cell_of_row _ _ 1 _ _ _ n3]; rfl), by rw [cell_of_row _ _ 0 _ _ _ n4]; rfl, by rw [cell_of_row _ _ 1 _ _ _ n4]; rfl, ?_⟩
        exact (((hb.trans hb2).alloc _).trans hb3).trans k3
      clear hb hb2 hb3 hb4
      generalize w4.alloc (.cells #[.pointer (some ⟨w2.heap.size, 0, none⟩), .func (.func 47) #[] #[]] 74) = W at *
      generalize w2.heap.size = b at *
      generalize w3.heap.size = g6 at *
      generalize w4.heap.size = g8 at *
      go_loopw [9, 31] (fun x i wr => ∃ k : Nat, k ≤ ns.length ∧ i = .int .i64 k ∧ Hid (Gr W wr) ∧ x = .string (B (flatN (ns.take k)))) (fun _ i _ => ns.length - (intOf i).toNat)
      case atStart => exact ⟨0, by omega, rfl, Gr.refl _, rfl⟩
      case round =>
        obtain ⟨k, hk, rfl, HG, rfl⟩ := hrel
        have hfz : (B (flatN (ns.take k))).size ≤ 200 := by rw [B_size, flatN_length, List.length_take]; omega
        by_cases hlt : k < ns.length
        · rcases HXY.out.2.1 with h0 | ⟨a, off, rfl, hcell⟩
          · subst h0; simp at hlt
          · have hc0 := (HB.out.2.2.2.2.2.trans HG.out).cells (hcell k ns[k] (List.getElem?_eq_getElem hlt) 0 _ rfl)
            have hnk := HXY.out.2.2.2 ns[k] (List.getElem_mem hlt)
            have HS := Lib.hid (flatN_snoc ns k hlt)
            simp only [Nat.add_zero, Nat.mul_one] at hc0
            have HK := Lib.hid hcell
            clear hcell
            have hz2 := B_be_size ns[k] 2
            generalize ns[k] = m at *
            generalize B (flatN (ns.take k)) = t at *
            go_wp2_with (go_at_call 47; refine (crc_pair m hnk _).mono ?_; rintro e v1 ⟨rfl, hg1⟩)
            go_roundw
            case rel => exact ⟨k + 1, by omega, by go_num, HG.out.trans hg1, by rw [HS.out]⟩
            case measure => simp [intOf]; omega
        · obtain rfl : k = ns.length := by omega
          rw [List.take_length] at *
          have HB2 : Hid (Crc.At wr b Crc.byt ∧ (wr.cell? ⟨g6, 0, none⟩ = some (.pointer (some ⟨b, 0, none⟩)) ∧ wr.cell? ⟨g6, 1, none⟩ = some (.func (.func 46) #[] #[])
              ∧ wr.cell? ⟨g8, 0, none⟩ = some (.pointer (some ⟨b, 0, none⟩)) ∧ wr.cell? ⟨g8, 1, none⟩ = some (.func (.func 47) #[] #[])) ∧ Gr w wr) :=
            ⟨HB.out.1.gr HG.out, ⟨HG.out.cells HB.out.2.1, HG.out.cells HB.out.2.2.1, HG.out.cells HB.out.2.2.2.1, HG.out.cells HB.out.2.2.2.2.1⟩, HB.out.2.2.2.2.2.trans HG.out⟩
          clear HB HG
          generalize wr = W1 at *
          go_wp2
          have htz : (B (flatN ns)).size ≤ maxLen := by unfold maxLen; omega
          have HT : Hid (Crc.add Crc.byt 0 (B (flatN ns)).data.toList = Crc.add Crc.byt 0 (flatN ns)) := rfl
          generalize B (flatN ns) = all at *
          go_loopw [43] (fun i wq => ∃ k : Nat, k ≤ xs.length ∧ i = .int .i64 k ∧ Hid (Gr W1 wq) ∧ Hid (∀ j x, xs[j]? = some x → j < k → x.size ≤ 1000)) (fun i _ => xs.length - (intOf i).toNat)
          case atStart => exact ⟨0, by omega, rfl, Gr.refl _, fun j x _ h => absurd h (by omega)⟩
          case round =>
            obtain ⟨k, hk, rfl, HG, HL⟩ := hrel
            by_cases hlt : k < xs.length
            · rcases HXY.out.1 with h0 | ⟨a, off, rfl, hcell⟩
              · subst h0; simp at hlt
              · have hc0 := (HB2.out.2.2.trans HG.out).cells (hcell k xs[k] (List.getElem?_eq_getElem hlt) 0 _ rfl)
                have hnk := HXY.out.2.2.1 xs[k] (List.getElem_mem hlt)
                simp only [Nat.add_zero, Nat.mul_one] at hc0
                have HK := Lib.hid hcell
                clear hcell
                have HI : Hid (xs[k]? = some xs[k]) := List.getElem?_eq_getElem hlt
                generalize xs[k] = s at *
                by_cases hbig : 1000 < s.size
                · go_wp2
                  go_ret
                  exact ⟨rfl, HB2.out.2.2.trans HG.out⟩
                · have q0 := HG.out.cells HB2.out.2.1.1
                  have q1 := HG.out.cells HB2.out.2.1.2.1
                  have HA := Lib.hid (HB2.out.1.gr HG.out)
                  go_wp2_with (first
                      | (go_at_call 49; refine (crc_one_s b s hnk _ (by exact HA.out)).mono ?_; rintro e v1 ⟨rfl, hg1⟩; have HV : Hid (Gr wr v1) := hg1; clear hg1)
                      | (go_at_call 19; refine (ref_of s hnk _).mono ?_; rintro e v2 ⟨rfl, rfl⟩))
                  go_roundw
                  case rel =>
                    refine ⟨k + 1, by omega, by go_num, HG.out.trans HV.out, fun j x hj hjk => ?_⟩
                    by_cases he : j = k
                    · subst he
                      rw [HI.out] at hj
                      cases hj
                      omega
                    · exact HL.out j x hj (by omega)
                  case measure => simp [intOf]; omega
            · obtain rfl : k = xs.length := by omega
              have HB3 : Hid (Crc.At wr b Crc.byt ∧ (wr.cell? ⟨g6, 0, none⟩ = some (.pointer (some ⟨b, 0, none⟩)) ∧ wr.cell? ⟨g6, 1, none⟩ = some (.func (.func 46) #[] #[])
                ∧ wr.cell? ⟨g8, 0, none⟩ = some (.pointer (some ⟨b, 0, none⟩)) ∧ wr.cell? ⟨g8, 1, none⟩ = some (.func (.func 47) #[] #[])) ∧ Gr w wr) :=
                ⟨HB2.out.1.gr HG.out, ⟨HG.out.cells HB2.out.2.1.1, HG.out.cells HB2.out.2.1.2.1, HG.out.cells HB2.out.2.1.2.2.1, HG.out.cells HB2.out.2.1.2.2.2⟩, HB2.out.2.2.trans HG.out⟩
              have HN : Hid ((∀ x ∈ xs, x.size ≤ 1000) ∧ (B (flat xs)).size ≤ maxLen ∧ xs.length ≤ 100 ∧ Crc.add Crc.byt 0 (B (flat xs)).data.toList = Crc.add Crc.byt 0 (flat xs)) := by
                have h1 : ∀ x ∈ xs, x.size ≤ 1000 := fun x hx => by
                  obtain ⟨j, hj, rfl⟩ := List.mem_iff_getElem.1 hx
                  exact HL.out j _ (List.getElem?_eq_getElem hj) hj
                refine ⟨h1, ?_, by omega, rfl⟩
                have h2 := flat_len xs 1000 h1
                rw [B_size]; unfold maxLen; omega
              clear HB2 HG HL
              generalize wr = W2 at *
              have hone : (⟨#[97]⟩ : ByteArray).size ≤ maxLen := by decide
              go_wp2_with (first
                | (go_at_call 45; refine (crc_over_sz _ _).mono ?_; rintro e w5 ⟨rfl, hb5⟩
                   have HB4 : Hid (Crc.At (w5.alloc (.cells #[.pointer none, .nilFunc] 71)) b Crc.byt ∧ Gr w (w5.alloc (.cells #[.pointer none, .nilFunc] 71))) :=
                      ⟨(HB3.out.1.gr hb5).gr ((Gr.refl _).alloc _), (HB3.out.2.2.trans hb5).alloc _⟩
                   obtain ⟨q1, q2, q3, q4, q5, q6⟩ : (w5.alloc (.cells #[.pointer none, .nilFunc] 71)).cell? ⟨g6, 0, none⟩ = some (.pointer (some ⟨b, 0, none⟩)) ∧ (w5.alloc (.cells #[.pointer none, .nilFunc] 71)).cell? ⟨g6, 1, none⟩ = some (.func (.func 46) #[] #[])
                     ∧ (w5.alloc (.cells #[.pointer none, .nilFunc] 71)).cell? ⟨g8, 0, none⟩ = some (.pointer (some ⟨b, 0, none⟩)) ∧ (w5.alloc (.cells #[.pointer none, .nilFunc] 71)).cell? ⟨g8, 1, none⟩ = some (.func (.func 47) #[] #[])
                     ∧ (w5.alloc (.cells #[.pointer none, .nilFunc] 71)).cell? ⟨w5.heap.size, 0, none⟩ = some (.pointer none) ∧ (w5.alloc (.cells #[.pointer none, .nilFunc] 71)).cell? ⟨w5.heap.size, 1, none⟩ = some .nilFunc := by
                     have n5 := heap_alloc_last w5 (.cells #[.pointer none, .nilFunc] 71)
                     have hg := hb5.alloc (.cells #[.pointer none, .nilFunc] 71)
                     exact ⟨hg.cells HB3.out.2.1.1, hg.cells HB3.out.2.1.2.1, hg.cells HB3.out.2.1.2.2.1, hg.cells HB3.out.2.1.2.2.2, by rw [cell_of_row _ _ 0 _ _ _ n5]; rfl, by rw [cell_of_row _ _ 1 _ _ _ n5]; rfl⟩)
                | (go_at_call 50; (with_reducible show Calls _ _ #[.agg #[.pointer (some _), _], _] _ _); refine (crc_all_s b A cap xs hcap hcm HXY.out.2.2.1 _ (by exact HB4.out.1) (by exact HXY.out.1.gr HB4.out.2)).mono ?_; rintro e w6 ⟨rfl, hb6⟩
                   have HB6 : Hid (Gr w w6) := HB4.out.2.trans hb6
                   obtain ⟨r1, r2, r3, r4, r5, r6⟩ := six_gr ⟨q1, q2, q3, q4, q5, q6⟩ hb6
                   have HB5 : Hid (Crc.At w6 b Crc.byt) := HB4.out.1.gr hb6
                   clear hb6)
                | (go_at_call 51; refine (join_any A cap xs hcap HN.out.2.2.1 HN.out.1 _ (by exact HXY.out.1.gr HB6.out)).mono ?_; rintro e w7 ⟨rfl, hb7⟩
                   have HB7 : Hid (Gr w w7) := HB6.out.trans hb7
                   obtain ⟨p1, p2, p3, p4, p5, p6⟩ := six_gr ⟨r1, r2, r3, r4, r5, r6⟩ hb7
                   have HB8 : Hid (Crc.At w7 b Crc.byt) := HB5.out.gr hb7
                   clear hb7)
                | (go_at_call 52; refine (crc_all_n b A2 cap2 ns hcap2 hcm2 HXY.out.2.2.2 _ (by exact HB8.out) (by exact HXY.out.2.1.gr HB7.out)).mono ?_; rintro e w8 ⟨rfl, hb8⟩
                   have HB9 : Hid (Gr w w8) := HB7.out.trans hb8
                   obtain ⟨o1, o2, o3, o4, o5, o6⟩ := six_gr ⟨p1, p2, p3, p4, p5, p6⟩ hb8
                   clear hb8)
                | (go_at_call 50; (with_reducible show Calls _ _ #[.agg #[.pointer none, _], _] _ _); refine (crc_all_z _ A cap xs hcap hcm _ (by exact HXY.out.1.gr HB9.out)).mono ?_; rintro e w9 ⟨rfl, hb9⟩
                   have HB10 : Hid (Gr w w9) := HB9.out.trans hb9
                   obtain ⟨n1, n2, n3, n4, n5, n6⟩ := six_gr ⟨o1, o2, o3, o4, o5, o6⟩ hb9
                   clear hb9)
                | (go_at_call 49; refine (crc_one_z _ _ hone _).mono ?_; rintro e w10 ⟨rfl, hb10⟩)
                | (go_at_call 19; refine (ref_of_eq _ _ (by first | exact HN.out.2.1 | exact htz) (by first | exact HN.out.2.2.2 | exact HT.out) _).mono ?_; rintro e v2 ⟨rfl, rfl⟩))
              go_ret
              exact ⟨rfl, HB10.out.trans hb10⟩
end Go.Proofs.Ytlkkgnidcgochaa
