/- Layer 4: a row off its bytes (printed by ordpars_gen.py). -/
import Derived.Test.YtckklikfikeokaaDoorOrdQuo
import Derived.Test.YtckklikfikeokaaDoorOrdW2
import Derived.Test.YtckklikfikeokaaDoorSchW1
namespace Go.Proofs.YtckklikfikeokaaDoor
open Go.RowKit
set_option linter.unusedVariables false
set_option linter.unusedSimpArgs false
set_option maxRecDepth 100000
set_option maxHeartbeats 4000000
theorem or_over (s : ByteArray) (w : World) : Calls Tryd.prog 40 #[.string s] w fun x w' => x = .returned (.pointer (some ⟨w.heap.size, 0, none⟩)) ∧ RdAt w' w.heap.size s 0 ∧ Gr w w' := by
  go_enter Tryd.func40, Tryd.ntmps40
  go_wp2
  go_ret
  exact ⟨rfl, RdAt.new w _ s 0, (Gr.refl w).alloc _⟩
structure ParAt (w wr : World) (r : Nat) (A : Option Addr) (cap : Nat) (xs : List Pa) (s1 : List UInt8) (e : Int) : Prop where
  rd : RdAt wr r (B s1) e
  own : Own wr (r + 1) 30 3 paCell A cap xs
  gr : Gr w wr
  le : w.heap.size ≤ r
section
variable {w wr w1 : World} {r : Nat} {A A2 : Option Addr} {cap cap2 : Nat} {xs xs2 : List Pa} {s1 s2 : List UInt8} {e e2 : Int}
theorem ParAt.ne (h : ParAt w wr r A cap xs s1 e) : ownOf A ≠ some r := fun he => by have := (h.own.lt he).2; omega
theorem ParAt.read (h : ParAt w wr r A cap xs s1 e) (hrd : RdAt w1 r (B s2) e2) (hc : Ch r wr w1) : ParAt w w1 r A cap xs s2 e2 :=
  ⟨hrd, h.own.ch hc h.ne, hc.gr h.gr h.le, h.le⟩
theorem ParAt.grow (h : ParAt w wr r A cap xs s1 e) (hg : Gr wr w1) : ParAt w w1 r A cap xs s1 e := ⟨h.rd.gr hg, h.own.gr hg, h.gr.trans hg, h.le⟩
theorem ParAt.push {n : Nat} (h : ParAt w wr r A cap xs s1 e) (hgrow : wr.grownBy w1 (Value.slice A n cap).ownBlock) (hown : Own w1 (r + 1) 30 3 paCell A2 cap2 xs2) : ParAt w w1 r A2 cap2 xs2 s1 e :=
  ⟨h.rd.of_block (hgrow.block r h.rd.lt (fun he => h.ne (by rw [← ownOf_eq A n cap]; exact he.symm))), hown, h.own.grown hgrow h.gr (by have := h.le; omega), h.le⟩
end
def PMid (S : List UInt8) (xs : List Pa) (s1 : List UInt8) (e : Int) : Prop := (e = 0 ∧ canOk xs ∧ S = keyB xs ++ s1) ∨ (e ≠ 0 ∧ noKey S)
theorem canOk_push {xs : List Pa} {p : Pa} (h : canOk xs) (h1 : isPlain p) (h2 : paOk p) : canOk (xs ++ [p]) := by
  intro q hq
  rcases List.mem_append.1 hq with hq | hq
  · exact h q hq
  · simp only [List.mem_singleton] at hq; subst hq; exact ⟨h1, h2⟩
theorem pm_push {S : List UInt8} {xs : List Pa} {s1 s2 : List UInt8} {p : Pa} (hx : canOk xs) (hS : S = keyB xs ++ s1) (h1 : isPlain p) (h2 : paOk p) (h3 : s1 = paB p ++ s2) : PMid S (xs ++ [p]) s2 0 :=
  .inl ⟨rfl, canOk_push hx h1 h2, by rw [hS, h3, keyB_app]; simp [keyB]⟩
theorem or_parts (S : List UInt8) (hS : S.length ≤ maxLen) (w : World) :
    Calls Tryd.prog 22 #[.string (B S)] w fun x w' => ∃ A cap xs e, x = .returned (.tuple #[.slice A xs.length cap, .int .i64 e]) ∧ ParsOf S xs e ∧ Own w' w.heap.size 30 3 paCell A cap xs ∧ Gr w w' := by
  unfold maxLen at hS
  have zS := B_size S
  by_cases hlong : 255 < S.length
  · have hl2 : (255 : Int) < ((S.length : Nat) : Int) := by omega
    have HA : Hid (ParsOf S [] 20) := .inr ⟨rfl, rfl, .inl hlong⟩
    clear hlong
    go_enter Tryd.func22, Tryd.ntmps22
    go_wp2
    go_ret2
    exact ⟨none, 0, [], 20, rfl, HA.out, Own.nil _ _ _ _ _, Gr.refl _⟩
  have hl2 : ¬ (255 : Int) < ((S.length : Nat) : Int) := by omega
  obtain ⟨ii, hii, hz0, hz1, hz2⟩ := info_parts or_infoPa
  have cV := Lib.hid (or_over (B S) w)
  have HS2 : Hid (S.length ≤ 255) := by unfold Hid; omega
  clear hlong
  go_enter Tryd.func22, Tryd.ntmps22
  go_wp2_with (go_at_call 40; refine cV.out.mono ?_; clear cV; rintro x v0 ⟨rfl, hrd, hg⟩; have HR0 : Hid (ParAt w v0 w.heap.size none 0 [] S 0) := ⟨hrd, Own.nil _ _ _ _ _, hg, Nat.le_refl _⟩; clear hrd hg)
  obtain ⟨r, hr⟩ : ∃ r, r = w.heap.size := ⟨_, rfl⟩
  rw [← hr] at HR0 ⊢
  have HRR := Lib.hid hr
  clear hr hl2
  go_loopw [5] (fun out wr => ∃ (A : Option Addr) (cap : Nat) (xs : List Pa) (s1 : List UInt8) (e : Int), out = .slice A xs.length cap ∧ xs.length + s1.length ≤ S.length ∧ Hid (ParAt w wr r A cap xs s1 e ∧ PMid S xs s1 e)) (fun _ wr => rdLeft wr r)
  case atStart => exact ⟨none, 0, [], S, 0, rfl, by simp, HR0.out, .inl ⟨rfl, fun p hp => by simp at hp, rfl⟩⟩
  case round =>
    obtain ⟨A, cap, xs, s1, e, rfl, hl, HR⟩ := hrel
    clear HR0
    have hSl : xs.length + s1.length ≤ 255 := by have := HS2.out; omega
    have cE := fun (_ : Unit) => Lib.hid (oct_err r (B s1) e wr HR.out.1.rd)
    have cL := Lib.hid (oct_left r (B s1) e wr HR.out.1.rd)
    rw [B_size] at cL
    have hleft := rdLeft_of HR.out.1.rd
    by_cases he : e = 0
    case neg =>
      have hno : Hid (ParsOf S [] 20) := by
        rcases HR.out.2 with h | h
        · exact absurd h.1 he
        · exact .inr ⟨rfl, rfl, .inr h.2⟩
      have heb : (e == 0) = false := by simp [he]
      have heb2 : (e != 0) = true := by simp [he]
      have HEX : Hid (Gr w wr) := HR.out.1.gr
      clear HR hleft
      by_cases h0 : 0 < s1.length
      · have h0' : (0 : Int) < ((s1.length : Nat) : Int) := by omega
        go_wp2_with (first
          | (go_at_call 42; refine (cE ()).out.mono ?_; rintro x v1 ⟨rfl, rfl⟩)
          | (go_at_call 41; refine cL.out.mono ?_; clear cL; rintro x v0 ⟨rfl, rfl⟩))
        go_ret2
        exact ⟨none, 0, [], 20, rfl, hno.out, Own.nil _ _ _ _ _, HEX.out⟩
      · have h0' : ¬ (0 : Int) < ((s1.length : Nat) : Int) := by omega
        go_wp2_with (first
          | (go_at_call 42; refine (cE ()).out.mono ?_; rintro x v1 ⟨rfl, rfl⟩)
          | (go_at_call 41; refine cL.out.mono ?_; clear cL; rintro x v0 ⟨rfl, rfl⟩))
        go_ret2
        exact ⟨none, 0, [], 20, rfl, hno.out, Own.nil _ _ _ _ _, HEX.out⟩
    subst he
    have HS : Hid (canOk xs ∧ S = keyB xs ++ s1) := by
      rcases HR.out.2 with h | h
      · exact h.2
      · exact absurd rfl h.1
    have HR1 := Lib.hid HR.out.1
    have HLE := Lib.hid hleft
    clear HR hleft
    cases s1 with
    | nil =>
      have HA : Hid (ParsOf S xs 0) := by
        have h := HS.out
        rw [List.append_nil] at h
        exact .inl ⟨rfl, h.1, h.2.symm, HS2.out⟩
      simp only [List.length_nil] at cL
      have HEX : Hid (Own wr w.heap.size 30 3 paCell A cap xs ∧ Gr w wr) := ⟨HR1.out.own.mono (by have := HR1.out.le; omega), HR1.out.gr⟩
      go_wp2_with (first
        | (go_at_call 41; refine cL.out.mono ?_; clear cL; rintro x v0 ⟨rfl, rfl⟩)
        | (go_at_call 42; refine (cE ()).out.mono ?_; rintro x v1 ⟨rfl, rfl⟩))
      go_ret2
      exact ⟨A, cap, xs, 0, rfl, HA.out, HEX.out.1, HEX.out.2⟩
    | cons c l1 =>
      have cO := Lib.hid (oct_rdone r (B (c :: l1)) (by rw [B_size]; unfold maxLen; omega) 0 wr HR1.out.rd)
      rw [rd1_cons c l1] at cO
      have h0' : (0 : Int) < (((c :: l1).length : Nat) : Int) := by simp only [List.length_cons]; omega
      generalize hcl : (c :: l1).length = cl at cL h0'
      have HCL := Lib.hid hcl
      clear hcl
      by_cases hc1 : c = 1
      · subst hc1
        have hv : (((1 : UInt8).toNat : Nat) : Int) = 1 := rfl
        rw [hv] at cO
        clear hv
        by_cases h8 : 8 ≤ l1.length
        · obtain ⟨q1, q2, q3⟩ := rd8_ge l1 h8
          have HM : Hid (PMid S (xs ++ [(false, Oct.num (l1.take 8), .empty)]) (l1.drop 8) 0) :=
            pm_push HS.out.1 HS.out.2 rfl q3 (by show 1 :: l1 = (1 :: Oct.be _ 8) ++ _; rw [q2, List.cons_append, List.take_append_drop])
          have HE := Lib.hid q1
          have HU : Hid (U64 (Oct.num (l1.take 8))) := q3
          clear q1 q2 q3
          generalize Oct.num (l1.take 8) = nn at *
          have hnw : IntKind.u64.wrap ((nn : Nat) : Int) = ((nn : Nat) : Int) := wrap_u64_of nn HU.out
          go_wp2_with (first
            | (go_at_call 41; refine cL.out.mono ?_; clear cL; rintro x v0 ⟨rfl, rfl⟩)
            | (go_at_call 42; refine (cE ()).out.mono ?_; rintro x v1 ⟨rfl, rfl⟩)
            | (go_at_call 43; refine cO.out.mono ?_; clear cO cE; rintro x v2 ⟨rfl, hrd, hch⟩; have HR2 := Lib.hid (HR1.out.read hrd hch); clear hrd hch)
            | (go_at_call 44; have h2 := oct_rdeight r _ (by rw [B_size]; unfold maxLen; simp only [List.length_cons] at hl hSl ⊢; omega) _ _ HR2.out.rd; rw [HE.out] at h2; refine h2.mono ?_; clear h2; rintro x v3 ⟨rfl, hrd, hch⟩; have HR3 := Lib.hid (HR2.out.read hrd hch); clear hrd hch)
            | (go_at_call 32; refine (or_num nn (by first | exact HU.out | (unfold U64; omega)) _).mono ?_; rintro x v4 ⟨rfl, hg⟩; have HR4 := Lib.hid ((HR3.out.grow hg).grow ((Gr.refl v4).alloc (.cells #[.bool false, .int .u64 (nn : Nat), .string .empty] 30))); have HZ4 : Hid (r + 1 ≤ (v4.alloc (.cells #[.bool false, .int .u64 (nn : Nat), .string .empty] 30)).heap.size) := HR4.out.rd.lt; clear hg)
            | (at_builtin; refine wpList_append_lies _ rfl _ _ 22 rfl (r + 1) 30 ii _ 3 32 Tryd.underlying22 hii hz0 hz1 hz2 rfl (by omega) (.slice A xs.length cap) xs.length (xs.flatMap paCell) rfl HR4.out.own ⟨v4.heap.size, 0, none⟩ 1 1 [.bool false, .int .u64 (nn : Nat), .string .empty] rfl rfl (World.news_of_block (cs := #[.bool false, .int .u64 (nn : Nat), .string .empty]) (heap_alloc_last v4 _)) (fun u hu => by simp at hu; rcases hu with rfl | rfl | rfl <;> rfl) (by omega) (show xs.length + 1 ≤ 9223372036854775807 by omega) (show (xs.length + 1) * 32 ≤ 140737488355328 by omega) HZ4.out _ rfl ?_; intro gg cc v5 hown hgrow hat hlt5; have HR5 := Lib.hid (HR4.out.push hgrow (Own.push ((false, nn, .empty) : Pa) hown)); clear hown hgrow hat))
          go_roundw
          case rel => exact ⟨_, _, xs ++ [(false, nn, .empty)], l1.drop 8, 0, by first | rfl | (rw [List.length_append]; rfl), by simp only [List.length_append, List.length_cons, List.length_nil, List.length_drop] at *; omega, HR5.out, HM.out⟩
          case measure => (rw [rdLeft_of HR5.out.rd, HLE.out]; simp only [List.length_cons, List.length_drop] at *; omega)
        · have HE : Hid (rdNum (B l1) 0 8 = (0, B l1, 3)) := rd_short l1 8 (by omega)
          have HM : Hid (PMid S (xs ++ [(false, 0, .empty)]) l1 3) := .inr ⟨by omega, by rw [HS.out.2]; exact noKey_of HS.out.1 (by simp) (noPa_1 (by omega))⟩
          have HU : Hid True := trivial
          go_wp2_with (first
            | (go_at_call 41; refine cL.out.mono ?_; clear cL; rintro x v0 ⟨rfl, rfl⟩)
            | (go_at_call 42; refine (cE ()).out.mono ?_; rintro x v1 ⟨rfl, rfl⟩)
            | (go_at_call 43; refine cO.out.mono ?_; clear cO cE; rintro x v2 ⟨rfl, hrd, hch⟩; have HR2 := Lib.hid (HR1.out.read hrd hch); clear hrd hch)
            | (go_at_call 44; have h2 := oct_rdeight r _ (by rw [B_size]; unfold maxLen; simp only [List.length_cons] at hl hSl ⊢; omega) _ _ HR2.out.rd; rw [HE.out] at h2; refine h2.mono ?_; clear h2; rintro x v3 ⟨rfl, hrd, hch⟩; have HR3 := Lib.hid (HR2.out.read hrd hch); clear hrd hch)
            | (go_at_call 32; refine (or_num 0 (by first | exact HU.out | (unfold U64; omega)) _).mono ?_; rintro x v4 ⟨rfl, hg⟩; have HR4 := Lib.hid ((HR3.out.grow hg).grow ((Gr.refl v4).alloc (.cells #[.bool false, .int .u64 (0 : Nat), .string .empty] 30))); have HZ4 : Hid (r + 1 ≤ (v4.alloc (.cells #[.bool false, .int .u64 (0 : Nat), .string .empty] 30)).heap.size) := HR4.out.rd.lt; clear hg)
            | (at_builtin; refine wpList_append_lies _ rfl _ _ 22 rfl (r + 1) 30 ii _ 3 32 Tryd.underlying22 hii hz0 hz1 hz2 rfl (by omega) (.slice A xs.length cap) xs.length (xs.flatMap paCell) rfl HR4.out.own ⟨v4.heap.size, 0, none⟩ 1 1 [.bool false, .int .u64 ((0 : Nat) : Int), .string .empty] rfl rfl (World.news_of_block (cs := #[.bool false, .int .u64 ((0 : Nat) : Int), .string .empty]) (heap_alloc_last v4 _)) (fun u hu => by simp at hu; rcases hu with rfl | rfl | rfl <;> rfl) (by omega) (show xs.length + 1 ≤ 9223372036854775807 by omega) (show (xs.length + 1) * 32 ≤ 140737488355328 by omega) HZ4.out _ rfl ?_; intro gg cc v5 hown hgrow hat hlt5; have HR5 := Lib.hid (HR4.out.push hgrow (Own.push ((false, 0, .empty) : Pa) hown)); clear hown hgrow hat))
          go_roundw
          case rel => exact ⟨_, _, xs ++ [(false, 0, .empty)], l1, 3, by first | rfl | (rw [List.length_append]; rfl), by simp only [List.length_append, List.length_cons, List.length_nil, List.length_drop] at *; omega, HR5.out, HM.out⟩
          case measure => (rw [rdLeft_of HR5.out.rd, HLE.out]; simp only [List.length_cons, List.length_drop] at *; omega)
      by_cases hc2 : c = 2
      · subst hc2
        have hv : (((2 : UInt8).toNat : Nat) : Int) = 2 := rfl
        rw [hv] at cO
        clear hv hc1
        go_wp2_with (first
          | (go_at_call 41; refine cL.out.mono ?_; clear cL; rintro x v0 ⟨rfl, rfl⟩)
          | (go_at_call 42; refine (cE ()).out.mono ?_; rintro x v1 ⟨rfl, rfl⟩)
          | (go_at_call 43; refine cO.out.mono ?_; clear cO cE; rintro x v2 ⟨rfl, hrd, hch⟩; have HR2 := Lib.hid (HR1.out.read hrd hch); clear hrd hch)
          | (go_at_call 45; have h2 := or_quoted r l1 (by simp only [List.length_cons] at hSl; omega) _ HR2.out.rd; refine h2.mono ?_; clear h2; rintro x v3 ⟨T, s3, e3, rfl, hqa, hl3, hlT, hrd, hch⟩; have HQA := Lib.hid hqa; have HR3 := Lib.hid (HR2.out.read hrd hch); clear hrd hch hqa)
          | (go_at_call 26; refine (or_str (B T) _).mono ?_; rintro x v4 ⟨rfl, hg⟩; have HR4 := Lib.hid ((HR3.out.grow hg).grow ((Gr.refl v4).alloc (.cells #[.bool true, .int .u64 0, .string (B T)] 30))); have HZ4 : Hid (r + 1 ≤ (v4.alloc (.cells #[.bool true, .int .u64 0, .string (B T)] 30)).heap.size) := HR4.out.rd.lt; clear hg)
          | (at_builtin; refine wpList_append_lies _ rfl _ _ 22 rfl (r + 1) 30 ii _ 3 32 Tryd.underlying22 hii hz0 hz1 hz2 rfl (by omega) (.slice A xs.length cap) xs.length (xs.flatMap paCell) rfl HR4.out.own ⟨v4.heap.size, 0, none⟩ 1 1 [.bool true, .int .u64 0, .string (B T)] rfl rfl (World.news_of_block (cs := #[.bool true, .int .u64 0, .string (B T)]) (heap_alloc_last v4 _)) (fun u hu => by simp at hu; rcases hu with rfl | rfl | rfl <;> rfl) (by omega) (show xs.length + 1 ≤ 9223372036854775807 by omega) (show (xs.length + 1) * 32 ≤ 140737488355328 by omega) HZ4.out _ rfl ?_; intro gg cc v5 hown hgrow hat hlt5; have HR5 := Lib.hid (HR4.out.push hgrow (Own.push ((true, 0, B T) : Pa) hown)); clear hown hgrow hat))
        have HM : Hid (PMid S (xs ++ [(true, 0, B T)]) s3 e3) := by
          rcases HQA.out with ⟨h1, h2⟩ | ⟨h1, h2⟩
          · subst h1
            exact pm_push HS.out.1 HS.out.2 rfl (by show (0 : Nat) < _; omega) (by show 2 :: l1 = (2 :: (esc (B T).data.toList ++ [0, 0])) ++ s3; rw [h2, B_list]; simp)
          · exact .inr ⟨h1, by rw [HS.out.2]; exact noKey_of HS.out.1 (by simp) (noPa_2 h2)⟩
        go_roundw
        case rel => exact ⟨_, _, xs ++ [(true, 0, B T)], s3, e3, by first | rfl | (rw [List.length_append]; rfl), by simp only [List.length_append, List.length_cons, List.length_nil, List.length_drop] at *; omega, HR5.out, HM.out⟩
        case measure => (rw [rdLeft_of HR5.out.rd, HLE.out]; simp only [List.length_cons, List.length_drop] at *; omega)
      have hv1 : ¬ ((c.toNat : Nat) : Int) = 1 := fun e => hc1 (UInt8.toNat.inj (by show c.toNat = 1; omega))
      have hv2 : ¬ ((c.toNat : Nat) : Int) = 2 := fun e => hc2 (UInt8.toNat.inj (by show c.toNat = 2; omega))
      have HM : Hid (PMid S xs l1 20) := .inr ⟨by omega, by rw [HS.out.2]; exact noKey_of HS.out.1 (by simp) (noPa_c hc1 hc2)⟩
      go_wp2_with (first
        | (go_at_call 41; refine cL.out.mono ?_; clear cL; rintro x v0 ⟨rfl, rfl⟩)
        | (go_at_call 42; refine (cE ()).out.mono ?_; rintro x v1 ⟨rfl, rfl⟩)
        | (go_at_call 43; refine cO.out.mono ?_; clear cO cE; rintro x v2 ⟨rfl, hrd, hch⟩; have HR2 := Lib.hid (HR1.out.read hrd hch); clear hrd hch)
        | (go_at_call 46; refine (oct_fail r _ _ 20 _ HR2.out.rd).mono ?_; rintro x v4 ⟨rfl, hrd, hch⟩; rw [rdFail_0] at hrd; have HR5 := Lib.hid (HR2.out.read hrd hch); clear hrd hch))
      go_roundw
      case rel => exact ⟨_, _, xs, l1, 20, by first | rfl | (rw [List.length_append]; rfl), by simp only [List.length_append, List.length_cons, List.length_nil, List.length_drop] at *; omega, HR5.out, HM.out⟩
      case measure => (rw [rdLeft_of HR5.out.rd, HLE.out]; simp only [List.length_cons, List.length_drop] at *; omega)
end Go.Proofs.YtckklikfikeokaaDoor
