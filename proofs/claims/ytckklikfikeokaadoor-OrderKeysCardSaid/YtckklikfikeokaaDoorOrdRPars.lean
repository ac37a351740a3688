/- Layer 4: the document's row off its bytes (printed by ordrpars_gen.py). -/
import Derived.Test.YtckklikfikeokaaDoorOrdRPars0
namespace Go.Proofs.YtckklikfikeokaaDoor
open Go.RowKit
set_option linter.unusedVariables false
set_option linter.unusedSimpArgs false
set_option maxRecDepth 100000
set_option maxHeartbeats 4000000
structure RPar (w wr : World) (A : Option Addr) (cap : Nat) (xs : List Pa) : Prop where
  own : Own wr w.heap.size 27 3 paCell A cap xs
  gr : Gr w wr
section
variable {w wr w1 : World} {o : Obj} {A A2 : Option Addr} {cap cap2 : Nat} {xs xs2 : List Pa}
theorem RPar.grow (h : RPar w wr A cap xs) (hg : Gr wr w1) : RPar w w1 A cap xs := ⟨h.own.gr hg, h.gr.trans hg⟩
theorem RPar.ch {b : Nat} (h : RPar w (wr.alloc o) A cap xs) (h0 : Own wr w.heap.size 27 3 paCell A cap xs) (hb : b = wr.heap.size) (hc : Ch b (wr.alloc o) w1) (hle : w.heap.size ≤ wr.heap.size) : RPar w w1 A cap xs :=
  ⟨h.own.ch hc (fun e => by have := h0.lt e; omega), hc.gr h.gr (by omega)⟩
theorem RPar.push {n : Nat} (h : RPar w wr A cap xs) (hgrow : wr.grownBy w1 (Value.slice A n cap).ownBlock) (hown : Own w1 w.heap.size 27 3 paCell A2 cap2 xs2) : RPar w w1 A2 cap2 xs2 :=
  ⟨hown, h.own.grown hgrow h.gr (Nat.le_refl _)⟩
end
def RMid (S : List UInt8) (xs : List Pa) (k : Nat) : Prop := canOk xs ∧ S = keyB xs ++ S.drop k
def QMid (S T0 : List UInt8) (k j : Nat) : Prop := S.drop (k + 1) = esc T0 ++ S.drop j
theorem rm_push {S s2 : List UInt8} {xs : List Pa} {k j : Nat} {p : Pa} (h : RMid S xs k) (h1 : isPlain p) (h2 : paOk p) (h3 : S.drop k = paB p ++ S.drop j) : RMid S (xs ++ [p]) j := by
  rcases pm_push h.1 h.2 h1 h2 h3 with h | h
  · exact ⟨h.2.1, h.2.2⟩
  · exact absurd rfl h.1
theorem rm_no {S : List UInt8} {xs : List Pa} {k : Nat} (h : RMid S xs k) (hk : k < S.length) (hp : ∀ p r, isPlain p → paOk p → S.drop k ≠ paB p ++ r) : ParsOf S [] 20 := by
  refine .inr ⟨rfl, rfl, .inr ?_⟩
  rw [h.2]
  exact noKey_of h.1 (fun e => by have := congrArg List.length e; simp at this; omega) hp
theorem rm_end {S : List UInt8} {xs : List Pa} (h : RMid S xs S.length) (hl : S.length ≤ 255) : ParsOf S xs 0 := by
  have h2 := h.2
  rw [List.drop_length, List.append_nil] at h2
  exact .inl ⟨rfl, h.1, h2.symm, hl⟩
theorem drop_at2 (S : List UInt8) (k : Nat) (h : k < S.length) {c : UInt8} (hc : S[k] = c) : S.drop k = c :: S.drop (k + 1) := by rw [drop_at S k h, hc]
theorem qm_ne {S T0 : List UInt8} {k j : Nat} {c : UInt8} (h : QMid S T0 k j) (hj : j < S.length) (hc : S[j] = c) (h0 : c ≠ 0) : QMid S (T0 ++ [c]) k (j + 1) := by
  unfold QMid at *; rw [h, drop_at S j hj, esc_app, hc]; simp [esc, h0]
theorem qm_0 {S T0 : List UInt8} {k j : Nat} (h : QMid S T0 k j) (hj : j + 1 < S.length) (hc : S[j] = 0) (hd : S[j + 1] = 255) : QMid S (T0 ++ [0]) k (j + 2) := by
  unfold QMid at *; rw [h, drop_at S j (by omega), drop_at S (j + 1) hj, esc_app, hc, hd]; simp [esc]
theorem qm_end {S T0 : List UInt8} {xs : List Pa} {k j : Nat} (hr : RMid S xs k) (hk : k < S.length) (hc2 : S[k] = 2) (h : QMid S T0 k j) (hj : j + 1 < S.length) (hc : S[j] = 0) (hd : S[j + 1] = 0) : RMid S (xs ++ [(true, 0, B T0)]) (j + 2) := by
  refine rm_push (s2 := S) hr rfl (by show (0 : Nat) < _; omega) ?_
  rw [drop_at S k hk, hc2, h, drop_at S j (by omega), drop_at S (j + 1) hj, hc, hd]
  show 2 :: _ = (2 :: (esc (B T0).data.toList ++ [0, 0])) ++ _
  rw [B_list]; simp
theorem qm_no {S T0 : List UInt8} {xs : List Pa} {k j : Nat} (hr : RMid S xs k) (hk : k < S.length) (hc2 : S[k] = 2) (h : QMid S T0 k j) (hn : noQ (S.drop j)) : ParsOf S [] 20 := by
  refine rm_no hr hk ?_
  rw [drop_at S k hk, hc2]
  refine noPa_2 ?_
  rw [h]
  exact noQ_of hn
theorem u8n (c : UInt8) (n : Nat) (hn : n < 256) : ((c.toNat : Nat) : Int) = (n : Int) ↔ c = UInt8.ofNat n := by
  constructor
  · intro h; apply UInt8.toNat.inj; rw [UInt8.toNat_ofNat']; omega
  · rintro rfl; rw [UInt8.toNat_ofNat']; omega
theorem r4_infoPa : (Tryd.prog.info? 27).map (fun i => (i.zero, i.size, i.bytes)) = some (some (.agg #[.bool false, .int .u64 0, .string { data := #[] }]), 3, 32) := by kernel_rfl
theorem r4_parts (S : List UInt8) (hS : S.length ≤ maxLen) (w : World) :
    Calls Tryd.prog 24 #[.string (B S)] w fun x w' => ∃ A cap xs e, x = .returned (.tuple #[.slice A xs.length cap, .int .i64 e]) ∧ ParsOf S xs e ∧ Own w' w.heap.size 27 3 paCell A cap xs ∧ Gr w w' := by
  unfold maxLen at hS
  have zS := B_size S
  by_cases hlong : 255 < S.length
  · have hl2 : (255 : Int) < ((S.length : Nat) : Int) := by omega
    have HA : Hid (ParsOf S [] 20) := .inr ⟨rfl, rfl, .inl hlong⟩
    clear hlong
    go_enter Tryd.func24, Tryd.ntmps24
    go_wp2
    go_ret2
    exact ⟨none, 0, [], 20, rfl, HA.out, Own.nil _ _ _ _ _, Gr.refl _⟩
  have hl2 : ¬ (255 : Int) < ((S.length : Nat) : Int) := by omega
  have hl3 : S.length ≤ 255 := by omega
  obtain ⟨ii, hii, hz0, hz1, hz2⟩ := info_parts r4_infoPa
  clear hlong
  go_enter Tryd.func24, Tryd.ntmps24
  go_wp2
  clear hl2
  go_loopw [4, 5] (fun out i wr => ∃ (A : Option Addr) (cap : Nat) (xs : List Pa) (k : Nat), out = .slice A xs.length cap ∧ i = .int .i64 (k : Nat) ∧ k ≤ S.length ∧ xs.length ≤ k ∧ Hid (RPar w wr A cap xs ∧ RMid S xs k)) (fun _ i _ => S.length - (intOf i).toNat)
  case atStart => exact ⟨none, 0, [], 0, rfl, rfl, by omega, by simp, ⟨Own.nil _ _ _ _ _, Gr.refl _⟩, ⟨fun p hp => by simp at hp, rfl⟩⟩
  case round =>
    obtain ⟨A, cap, xs, k, rfl, rfl, hk, hxk, HR⟩ := hrel
    by_cases hlt : k < S.length
    case neg =>
      obtain rfl : k = S.length := by omega
      have HA := Lib.hid (rm_end HR.out.2 hl3)
      go_wp2
      go_ret2
      exact ⟨A, cap, xs, 0, rfl, HA.out, HR.out.1.own, HR.out.1.gr⟩
    have hkb : k < (B S).size := by rw [zS]; exact hlt
    have hk0 : (0 : Int) ≤ (k : Int) := by omega
    have hkz : (k : Int) < ((S.length : Nat) : Int) := by omega
    have hkt : (k : Int).toNat = k := by omega
    obtain ⟨c, hcS⟩ : ∃ c : UInt8, S[k]'hlt = c := ⟨_, rfl⟩
    have hcB : (((B S)[k].toNat : Nat) : Int) = ((c.toNat : Nat) : Int) := by show (((S[k]'hlt).toNat : Nat) : Int) = _; rw [hcS]
    have HK := Lib.hid hcS
    clear hcS
    have hk9 : IntKind.i64.wrap ((k : Int) + 9) = (k : Int) + 9 := by rw [IntKind.wrap_i64]; omega
    have hk1 : IntKind.i64.wrap ((k : Int) + 1) = (k : Int) + 1 := by rw [IntKind.wrap_i64]; omega
    by_cases hc1 : c = 1
    · subst hc1
      have hv1 : (((B S)[k].toNat : Nat) : Int) = 1 := hcB
      clear hcB
      by_cases h9 : k + 9 ≤ S.length
      case neg =>
        have h9' : ((S.length : Nat) : Int) < (k : Int) + 9 := by omega
        have HA : Hid (ParsOf S [] 20) := rm_no HR.out.2 hlt (by rw [drop_at2 S k hlt HK.out]; exact noPa_1 (by rw [List.length_drop]; omega))
        have HEX : Hid (Gr w wr) := HR.out.1.gr
        go_wp2
        go_ret2
        exact ⟨none, 0, [], 20, rfl, HA.out, Own.nil _ _ _ _ _, HEX.out⟩
      have h9' : ¬ ((S.length : Nat) : Int) < (k : Int) + 9 := by omega
      have h9a : (k : Int) + 9 ≤ ((S.length : Nat) : Int) := by omega
      have h9b : (k : Int) + 1 ≤ (k : Int) + 9 := by omega
      have h9c : (0 : Int) ≤ (k : Int) + 1 := by omega
      have h9d : ((k : Int) + 1).toNat = k + 1 := by omega
      have h9e : ((k : Int) + 9).toNat = k + 9 := by omega
      have HBX : Hid ((B S).extract (k + 1) (k + 9) = B ((S.drop (k + 1)).take 8)) := by
        unfold Hid; rw [B_extract, show k + 9 - (k + 1) = 8 by omega]
      obtain ⟨q1, q2, q3⟩ := rd8_ge (S.drop (k + 1)) (by rw [List.length_drop]; omega)
      have q4 := rd8_ge ((S.drop (k + 1)).take 8) (by rw [List.length_take, List.length_drop]; omega)
      have HM : Hid (RMid S (xs ++ [(false, Oct.num ((S.drop (k + 1)).take 8), .empty)]) (k + 9)) :=
        rm_push (s2 := S) HR.out.2 rfl q3 (by
          rw [drop_at2 S k hlt HK.out]
          show 1 :: _ = (1 :: Oct.be _ 8) ++ _
          rw [q2, List.cons_append, show S.drop (k + 9) = (S.drop (k + 1)).drop 8 by rw [List.drop_drop], List.take_append_drop])
      have HE : Hid (rdNum (B ((S.drop (k + 1)).take 8)) 0 8 = (Oct.num ((S.drop (k + 1)).take 8), B (((S.drop (k + 1)).take 8).drop 8), 0)) := by
        have := q4.1; rw [List.take_take, Nat.min_self] at this; exact this
      have hX8 : ((S.drop (k + 1)).take 8).length ≤ maxLen := by rw [List.length_take]; unfold maxLen; omega
      have HU : Hid (U64 (Oct.num ((S.drop (k + 1)).take 8))) := q3
      clear q1 q2 q3 q4
      generalize Oct.num ((S.drop (k + 1)).take 8) = nn at *
      generalize (S.drop (k + 1)).take 8 = X8 at *
      have cN : Hid (∀ w1 b, RdAt w1 b (B X8) 0 → Calls Tryd.prog 48 #[.pointer (some ⟨b, 0, none⟩), .int .i64 8] w1 fun x w' => x = .returned (.int .u64 (nn : Nat)) ∧ RdAt w' b (B (X8.drop 8)) 0 ∧ Ch b w1 w') := by
        intro w1 b h
        have h2 := rref_num b (B X8) (by rw [B_size]; exact hX8) 0 8 (by omega) w1 h
        rw [HE.out] at h2
        exact h2
      clear hX8
      have hnw : IntKind.u64.wrap ((nn : Nat) : Int) = ((nn : Nat) : Int) := wrap_u64_of nn HU.out
      have HV0 : Hid (RdAt (wr.alloc (.cells #[.string (B X8), .int .i64 0] 83)) wr.heap.size (B X8) 0) := RdAt.new wr _ _ _
      go_wp2_with (first
        | (go_at_call 48; rw [HBX.out]; refine (cN.out _ _ HV0.out).mono ?_; clear cN; rintro x v1 ⟨rfl, hrd, hch⟩; have HV1 : Hid (RPar w v1 A cap xs) := (HR.out.1.grow ((Gr.refl wr).alloc _)).ch HR.out.1.own rfl hch HR.out.1.gr.size; clear hrd hch)
        | (go_at_call 47; refine (r4_num nn HU.out _).mono ?_; rintro x v2 ⟨rfl, hg⟩; have HV2 := Lib.hid (HV1.out.grow hg); have HR4 := Lib.hid (HV2.out.grow ((Gr.refl v2).alloc (.cells #[.bool false, .int .u64 (nn : Nat), .string .empty] 27))); have HZ4 : Hid (w.heap.size ≤ (v2.alloc (.cells #[.bool false, .int .u64 (nn : Nat), .string .empty] 27)).heap.size) := HR4.out.gr.size; clear hg)
        | (at_builtin; refine wpList_append_lies _ rfl _ _ 29 rfl w.heap.size 27 ii _ 3 32 Tryd.underlying29 hii hz0 hz1 hz2 rfl (by omega) (.slice A xs.length cap) xs.length (xs.flatMap paCell) rfl HR4.out.own ⟨v2.heap.size, 0, none⟩ 1 1 [.bool false, .int .u64 (nn : Nat), .string .empty] rfl rfl (World.news_of_block (cs := #[.bool false, .int .u64 (nn : Nat), .string .empty]) (heap_alloc_last v2 _)) (fun u hu => by simp at hu; rcases hu with rfl | rfl | rfl <;> rfl) (by omega) (show xs.length + 1 ≤ 9223372036854775807 by omega) (show (xs.length + 1) * 32 ≤ 140737488355328 by omega) HZ4.out _ rfl ?_; intro gg cc v5 hown hgrow hat hlt5; have HR5 := Lib.hid (HR4.out.push hgrow (Own.push ((false, nn, .empty) : Pa) hown)); clear hown hgrow hat))
      go_roundw
      case rel => exact ⟨_, _, xs ++ [(false, nn, .empty)], k + 9, by first | rfl | (rw [List.length_append]; rfl), by go_num, by omega, by simp only [List.length_append, List.length_cons, List.length_nil]; omega, HR5.out, HM.out⟩
      case measure => (simp [intOf]; try omega)
    by_cases hc2 : c = 2
    case neg =>
      have hv1 : ¬ (((B S)[k].toNat : Nat) : Int) = 1 := by rw [hcB]; exact fun e => hc1 (UInt8.toNat.inj (by show c.toNat = 1; omega))
      have hv2 : ¬ (((B S)[k].toNat : Nat) : Int) = 2 := by rw [hcB]; exact fun e => hc2 (UInt8.toNat.inj (by show c.toNat = 2; omega))
      have HA : Hid (ParsOf S [] 20) := rm_no HR.out.2 hlt (by rw [drop_at2 S k hlt HK.out]; exact noPa_c hc1 hc2)
      have HEX : Hid (Gr w wr) := HR.out.1.gr
      clear hcB
      go_wp2
      go_ret2
      exact ⟨none, 0, [], 20, rfl, HA.out, Own.nil _ _ _ _ _, HEX.out⟩
    subst hc2
    have hv1 : ¬ (((B S)[k].toNat : Nat) : Int) = 1 := by rw [hcB]; decide
    have hv2 : (((B S)[k].toNat : Nat) : Int) = 2 := hcB
    clear hcB hc1
    have HI0 : Hid (RPar w wr A cap xs ∧ QMid S [] k (k + 1)) := ⟨HR.out.1, by unfold QMid; simp [esc]⟩
    go_wp2
    clear hv1 hv2 hkb hk0 hkz hkt hk9 hk1
    generalize hpre : wr = wp at *
    clear hpre
    go_loopw [5, 7] (fun i s wi => ∃ (T0 : List UInt8) (j : Nat), i = .int .i64 (j : Nat) ∧ s = .string (B T0) ∧ k + 1 ≤ j ∧ j ≤ S.length ∧ T0.length ≤ j ∧ Hid (RPar w wi A cap xs ∧ QMid S T0 k j)) (fun i _ _ => S.length - (intOf i).toNat)
    case atStart => exact ⟨[], k + 1, by go_num, rfl, by omega, by omega, by simp, HI0.out⟩
    case round =>
      obtain ⟨T0, j, rfl, rfl, hkj, hj, hTj, HQ⟩ := hrel
      clear HI0
      have HEX : Hid (Gr w wr) := HQ.out.1.gr
      have zT := B_size T0
      by_cases hjl : j < S.length
      case neg =>
        have HA : Hid (ParsOf S [] 20) := qm_no HR.out.2 hlt HK.out HQ.out.2 (by rw [List.drop_eq_nil_of_le (by omega)]; exact noQ_nil)
        have hjz : ((S.length : Nat) : Int) ≤ (j : Int) := by omega
        go_wp2
        go_ret2
        exact ⟨none, 0, [], 20, rfl, HA.out, Own.nil _ _ _ _ _, HEX.out⟩
      have hjb : j < (B S).size := by rw [zS]; exact hjl
      have hj0 : (0 : Int) ≤ (j : Int) := by omega
      have hjz : (j : Int) < ((S.length : Nat) : Int) := by omega
      have hjz2 : ¬ ((S.length : Nat) : Int) ≤ (j : Int) := by omega
      have hjt : (j : Int).toNat = j := by omega
      have hjw : IntKind.i64.wrap ((j : Int) + 1) = (j : Int) + 1 := by rw [IntKind.wrap_i64]; omega
      have hjw2 : IntKind.i64.wrap ((j : Int) + 2) = (j : Int) + 2 := by rw [IntKind.wrap_i64]; omega
      have hjw3 : IntKind.i64.wrap ((j : Int) + 2 - 1) = (j : Int) + 1 := by rw [IntKind.wrap_i64]; omega
      have hjle : (j : Int) ≤ (j : Int) + 1 := by omega
      have hjt1 : ((j : Int) + 1).toNat = j + 1 := by omega
      have hjt2 : ((j : Int) + 2).toNat = j + 2 := by omega
      have hj10 : (0 : Int) ≤ (j : Int) + 1 := by omega
      obtain ⟨d, hdS⟩ : ∃ d : UInt8, S[j]'hjl = d := ⟨_, rfl⟩
      have hdB : (((B S)[j].toNat : Nat) : Int) = ((d.toNat : Nat) : Int) := by show (((S[j]'hjl).toNat : Nat) : Int) = _; rw [hdS]
      by_cases hd0 : d = 0
      case neg =>
        have hv : ¬ (((B S)[j].toNat : Nat) : Int) = 0 := by rw [hdB]; exact fun e => hd0 (UInt8.toNat.inj (by show d.toNat = 0; omega))
        have HBX : Hid (B T0 ++ (B S).extract j (j + 1) = B (T0 ++ [d])) := by
          unfold Hid; rw [B_extract, List.drop_eq_getElem_cons hjl, show j + 1 - j = 1 by omega, B_app, hdS]; rfl
        have hex : ((B S).extract j (j + 1)).size = 1 := by rw [B_extract, B_size, List.length_take, List.length_drop]; omega
        have hmin : min (j + 1) S.length - j = 1 := by omega
        have hmin2 : min (j + 1) S.length = j + 1 := by omega
        have hjz1 : (j : Int) + 1 ≤ ((S.length : Nat) : Int) := by omega
        have hno5 : ¬ (9223372036854775807 < T0.length + 1) := by omega
        have HT : Hid (RPar w wr A cap xs ∧ QMid S (T0 ++ [d]) k (j + 1)) := ⟨HQ.out.1, qm_ne HQ.out.2 hjl hdS hd0⟩
        have HTl : Hid ((T0 ++ [d]).length ≤ j + 1) := by unfold Hid; rw [List.length_append]; simpa using hTj
        clear hdB hdS
        go_wp2
        go_roundw
        case rel => exact ⟨T0 ++ [d], j + 1, by go_num, by rw [← HBX.out], by omega, by omega, HTl.out, HT.out⟩
        case measure => (simp [intOf]; try omega)
      subst hd0
      have hv : (((B S)[j].toNat : Nat) : Int) = 0 := hdB
      clear hdB
      by_cases hj1 : j + 1 < S.length
      case neg =>
        have HA : Hid (ParsOf S [] 20) := qm_no HR.out.2 hlt HK.out HQ.out.2 (by rw [drop_at S j hjl, List.drop_eq_nil_of_le (by omega), hdS]; exact noQ_0)
        have hj1z : ((S.length : Nat) : Int) ≤ (j : Int) + 1 := by omega
        have hj1y : ¬ (j : Int) + 1 < ((S.length : Nat) : Int) := by omega
        clear hdS
        go_wp2
        go_ret2
        exact ⟨none, 0, [], 20, rfl, HA.out, Own.nil _ _ _ _ _, HEX.out⟩
      have hj1b : j + 1 < (B S).size := by rw [zS]; exact hj1
      have hj1z : ¬ ((S.length : Nat) : Int) ≤ (j : Int) + 1 := by omega
      have hj1y : (j : Int) + 1 < ((S.length : Nat) : Int) := by omega
      obtain ⟨f, hfS⟩ : ∃ f : UInt8, S[j + 1]'hj1 = f := ⟨_, rfl⟩
      have hfB : (((B S)[j + 1].toNat : Nat) : Int) = ((f.toNat : Nat) : Int) := by show (((S[j + 1]'hj1).toNat : Nat) : Int) = _; rw [hfS]
      by_cases hf0 : f = 0
      · subst hf0
        have hw : (((B S)[j + 1].toNat : Nat) : Int) = 0 := hfB
        have HM : Hid (RMid S (xs ++ [(true, 0, B T0)]) (j + 2)) := qm_end HR.out.2 hlt HK.out HQ.out.2 hj1 hdS hfS
        have HR1 : Hid (RPar w wr A cap xs) := HQ.out.1
        clear hfB hfS hdS HQ HR
        go_wp2_with (first
          | (go_at_call 10; refine (r4_str (B T0) _).mono ?_; rintro x v2 ⟨rfl, hg⟩; have HV2 := Lib.hid (HR1.out.grow hg); have HR4 := Lib.hid (HV2.out.grow ((Gr.refl v2).alloc (.cells #[.bool true, .int .u64 0, .string (B T0)] 27))); have HZ4 : Hid (w.heap.size ≤ (v2.alloc (.cells #[.bool true, .int .u64 0, .string (B T0)] 27)).heap.size) := HR4.out.gr.size; clear hg)
          | (at_builtin; refine wpList_append_lies _ rfl _ _ 29 rfl w.heap.size 27 ii _ 3 32 Tryd.underlying29 hii hz0 hz1 hz2 rfl (by omega) (.slice A xs.length cap) xs.length (xs.flatMap paCell) rfl HR4.out.own ⟨v2.heap.size, 0, none⟩ 1 1 [.bool true, .int .u64 0, .string (B T0)] rfl rfl (World.news_of_block (cs := #[.bool true, .int .u64 0, .string (B T0)]) (heap_alloc_last v2 _)) (fun u hu => by simp at hu; rcases hu with rfl | rfl | rfl <;> rfl) (by omega) (show xs.length + 1 ≤ 9223372036854775807 by omega) (show (xs.length + 1) * 32 ≤ 140737488355328 by omega) HZ4.out _ rfl ?_; intro gg cc v5 hown hgrow hat hlt5; have HR5 := Lib.hid (HR4.out.push hgrow (Own.push ((true, 0, B T0) : Pa) hown)); clear hown hgrow hat))
        go_roundw
        case rel => exact ⟨_, _, xs ++ [(true, 0, B T0)], j + 2, by first | rfl | (rw [List.length_append]; rfl), by go_num, by omega, by simp only [List.length_append, List.length_cons, List.length_nil]; omega, HR5.out, HM.out⟩
        case measure => (simp [intOf]; try omega)
      by_cases hf1 : f = 255
      · subst hf1
        have hw : ¬ (((B S)[j + 1].toNat : Nat) : Int) = 0 := by rw [hfB]; decide
        have hw2 : (((B S)[j + 1].toNat : Nat) : Int) = 255 := hfB
        have hQ2 := Lib.hid (qm_0 HQ.out.2 hj1 hdS hfS)
        have HBX : Hid (B T0 ++ B [0] = B (T0 ++ [0])) := by unfold Hid; rw [B_app]
        have HTl : Hid ((T0 ++ [0]).length ≤ j + 2) := by unfold Hid; rw [List.length_append]; simp; omega
        have c0 : ∀ w1, Hid (Calls Tryd.prog 30 #[.int .u64 0, .int .i64 1] w1 fun r w' => r = .returned (.string (B [0])) ∧ Gr w1 w') := fun w1 => ref_big 0 (by unfold U64; omega) 1 (by omega) w1
        have z1 : (B [0]).size = 1 := rfl
        have hno5 : ¬ (9223372036854775807 < T0.length + 1) := by omega
        generalize B [0] = g0 at *
        clear hfB hfS hdS
        go_wp2_with (go_at_call 30; refine (c0 _).out.mono ?_; clear c0; rintro r v1 ⟨rfl, hg⟩; have HT : Hid (RPar w v1 A cap xs) := HQ.out.1.grow hg; clear hg)
        go_roundw
        case rel => exact ⟨T0 ++ [0], j + 2, by go_num, by rw [← HBX.out], by omega, by omega, HTl.out, HT.out, hQ2.out⟩
        case measure => (simp [intOf]; try omega)
      have hw : ¬ (((B S)[j + 1].toNat : Nat) : Int) = 0 := by rw [hfB]; exact fun e => hf0 (UInt8.toNat.inj (by show f.toNat = 0; omega))
      have hw2 : ¬ (((B S)[j + 1].toNat : Nat) : Int) = 255 := by rw [hfB]; exact fun e => hf1 (UInt8.toNat.inj (by show f.toNat = 255; omega))
      have hw3 : ((((B S)[j + 1].toNat : Nat) : Int) != 0) = true := bne_iff_ne.2 hw
      have hw4 : ((((B S)[j + 1].toNat : Nat) : Int) != 255) = true := bne_iff_ne.2 hw2
      have hw5 : ((((B S)[j + 1].toNat : Nat) : Int) == 0) = false := beq_eq_false_iff_ne.2 hw
      have hw6 : ((((B S)[j + 1].toNat : Nat) : Int) == 255) = false := beq_eq_false_iff_ne.2 hw2
      have HA : Hid (ParsOf S [] 20) := qm_no HR.out.2 hlt HK.out HQ.out.2 (by rw [drop_at S j hjl, drop_at S (j + 1) hj1, hdS, hfS]; exact noQ_0d _ hf0 hf1)
      clear hfB hfS hdS
      go_wp2
      go_ret2
      exact ⟨none, 0, [], 20, rfl, HA.out, Own.nil _ _ _ _ _, HEX.out⟩
end Go.Proofs.YtckklikfikeokaaDoor
