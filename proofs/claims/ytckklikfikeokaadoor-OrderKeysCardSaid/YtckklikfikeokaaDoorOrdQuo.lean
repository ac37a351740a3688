/- Layer 4: a quoted text off a reader (printed by ordquo_gen.py). -/
import Derived.Test.YtckklikfikeokaaDoorOrdParM
import Derived.Test.YtckklikfikeokaaDoorBdByte
import Derived.Test.YtckklikfikeokaaDoorOrdRKey
namespace Go.Proofs.YtckklikfikeokaaDoor
open Go.RowKit
set_option linter.unusedVariables false
set_option linter.unusedSimpArgs false
set_option maxRecDepth 100000
set_option maxHeartbeats 4000000
def rdLeft (w : World) (r : Nat) : Nat := match w.cell? ⟨r, 0, none⟩ with | some (.string s) => s.size | _ => 0
theorem rdLeft_of {w : World} {r : Nat} {s : List UInt8} {e : Int} (h : RdAt w r (B s) e) : rdLeft w r = s.length := by
  unfold rdLeft; rw [h.s]; exact B_size s
def QuoAns (s T s' : List UInt8) (e' : Int) : Prop := (e' = 0 ∧ s = esc T ++ 0 :: 0 :: s') ∨ (e' ≠ 0 ∧ noQ s)
def QuoMid (s T0 s1 : List UInt8) (e : Int) : Prop := (e = 0 ∧ s = esc T0 ++ s1) ∨ (e ≠ 0 ∧ noQ s)
structure QuoAt (w0 w wr : World) (r b : Nat) (G : Option Nat) (s T0 s1 : List UInt8) (e : Int) : Prop where
  rd : RdAt wr r (B s1) e
  bd : Bd wr b G T0
  ch : Ch r w0 wr
  gs : ∀ g, G = some g → w0.heap.size ≤ g
theorem QuoAt.read {w0 wr w1 : World} {r b : Nat} {G : Option Nat} {s T0 s1 s2 : List UInt8} {e e2 : Int} (h : QuoAt w0 wr wr r b G s T0 s1 e) (hb : w0.heap.size ≤ b) (hr : r < w0.heap.size) (hrd : RdAt w1 r (B s2) e2) (hc : Ch r wr w1) : QuoAt w0 w1 w1 r b G s T0 s2 e2 :=
  ⟨hrd, h.bd.ch hc (by omega) (fun g hg => by have := h.gs g hg; omega), h.ch.trans hc, h.gs⟩
theorem QuoAt.put {w0 wr w1 : World} {r b : Nat} {G G2 : Option Nat} {s T0 s1 T1 : List UInt8} {e : Int} (h : QuoAt w0 wr wr r b G s T0 s1 e) (hb : w0.heap.size ≤ b) (hr : r < w0.heap.size) (hbd : Bd w1 b G2 T1) (hk : Kp b G wr w1) (hG : G2 = G ∨ ∀ g, G2 = some g → wr.heap.size ≤ g) : QuoAt w0 w1 w1 r b G2 s T1 s1 e := by
  refine ⟨h.rd.kp hk (by omega) (fun g hg => by have := h.gs g hg; omega), hbd, hk.ch h.ch hb h.gs, ?_⟩
  intro g hg
  rcases hG with he | he
  · exact h.gs g (he.symm.trans hg)
  · have := he g hg; have := h.ch.size; omega
theorem u8_nat_ne {c d : UInt8} (h : c ≠ d) : ¬ ((c.toNat : Nat) : Int) = ((d.toNat : Nat) : Int) := by
  intro e; exact h (UInt8.toNat.inj (by omega))
theorem or_quoted (r : Nat) (s : List UInt8) (hs : s.length ≤ 255) (w : World) (h : RdAt w r (B s) 0) :
    Calls Tryd.prog 45 #[.pointer (some ⟨r, 0, none⟩)] w fun x w' => ∃ T s' e', x = .returned (.string (B T)) ∧ QuoAns s T s' e' ∧ s'.length ≤ s.length ∧ T.length ≤ 255 ∧ RdAt w' r (B s') e' ∧ Ch r w w' := by
  have hrl := h.lt
  have HQ0 : Hid (QuoAt w (w.alloc (.cells #[.pointer none, .slice none 0 0] 64)) (w.alloc (.cells #[.pointer none, .slice none 0 0] 64)) r w.heap.size none s [] s 0) := ⟨h.gr ((Gr.refl w).alloc _), Bd.new w, (Ch.refl r w).alloc _, fun g hg => by cases hg⟩
  clear h
  go_enter Tryd.func45, Tryd.ntmps45
  go_wp2
  generalize w.alloc (.cells #[.pointer none, .slice none 0 0] 64) = W at *
  obtain ⟨b, hb⟩ : ∃ b, b = w.heap.size := ⟨_, rfl⟩
  rw [← hb] at HQ0 ⊢
  have hbl : w.heap.size ≤ b := by omega
  have HBR := Lib.hid (And.intro hbl hrl)
  clear hb hbl hrl
  go_loopw [] (fun wr => ∃ (T0 s1 : List UInt8) (e : Int) (G : Option Nat), T0.length + s1.length ≤ s.length ∧ Hid (QuoAt w wr wr r b G s T0 s1 e ∧ QuoMid s T0 s1 e)) (fun wr => rdLeft wr r)
  case atStart => exact ⟨[], s, 0, none, by simp, HQ0.out, .inl ⟨rfl, rfl⟩⟩
  case round =>
    obtain ⟨T0, s1, e, G, hl, HR⟩ := hrel
    clear HQ0
    have cE := Lib.hid (oct_err r (B s1) e wr HR.out.1.rd)
    have hleft := rdLeft_of HR.out.1.rd
    by_cases he : e = 0
    case neg =>
      have hno : Hid (QuoAns s [] s1 e) := by
        rcases HR.out.2 with h | h
        · exact absurd h.1 he
        · exact .inr h
      have heb : (e == 0) = false := by simp [he]
      have hls : Hid (s1.length ≤ s.length) := by unfold Hid; omega
      have HEX : Hid (RdAt wr r (B s1) e ∧ Ch r w wr) := ⟨HR.out.1.rd, HR.out.1.ch⟩
      clear HR
      go_wp2_with (go_at_call 42; refine cE.out.mono ?_; clear cE; rintro x v1 ⟨rfl, rfl⟩)
      go_ret
      exact ⟨[], s1, e, rfl, hno.out, hls.out, by simp, HEX.out.1, HEX.out.2⟩
    subst he
    have HS : Hid (s = esc T0 ++ s1) := by
      rcases HR.out.2 with h | h
      · exact h.2
      · exact absurd rfl h.1
    have HR1 := Lib.hid HR.out.1
    have HLE := Lib.hid hleft
    clear HR hleft
    have cO := Lib.hid (oct_rdone r (B s1) (by rw [B_size]; unfold maxLen; omega) 0 wr HR1.out.rd)
    cases s1 with
    | nil =>
      rw [rd_short [] 1 (by simp)] at cO
      have HA : Hid (QuoAns s T0 [] 3) := .inr ⟨by omega, by rw [HS.out]; exact noQ_of noQ_nil⟩
      simp only [List.length_nil] at hl
      go_wp2_with (first
        | (go_at_call 42; refine cE.out.mono ?_; clear cE; rintro x v1 ⟨rfl, rfl⟩)
        | (go_at_call 43; (refine cO.out.mono ?_; clear cO; rintro x v2 ⟨rfl, hrd, hch⟩; have HR2 := Lib.hid (HR1.out.read HBR.out.1 HBR.out.2 hrd hch); clear hrd hch))
        | (go_at_call 43; (have hq2 := rdNum_err (s := B []) (e := 3) (k := 1) (by omega); have h2 := oct_rdone r _ (by rw [B_size]; unfold maxLen; simp only [List.length_cons, List.length_nil] at hl ⊢; omega) _ _ HR2.out.rd; rw [hq2] at h2; refine h2.mono ?_; clear h2 hq2; rintro x v3 ⟨rfl, hrd, hch⟩; have HR3 := Lib.hid (HR2.out.read HBR.out.1 HBR.out.2 hrd hch); clear hrd hch))
        | (go_at_call 36; refine (bd_str b G T0 _ HR3.out.bd (by omega)).mono ?_; rintro x v4 ⟨rfl, hk⟩; have HZ : Hid (RdAt v4 r (B _) _ ∧ Ch r w v4) := ⟨HR3.out.rd.kp hk (by have := HBR.out; omega) (fun g hg => by have := HR3.out.gs g hg; have := HBR.out; omega), hk.ch HR3.out.ch HBR.out.1 HR3.out.gs⟩; clear hk))
      go_ret
      exact ⟨T0, [], 3, rfl, HA.out, by simp, by omega, HZ.out.1, HZ.out.2⟩
    | cons c l1 =>
      rw [rd1_cons c l1] at cO
      by_cases hc : c = 0
      case neg =>
        have hc1 : ¬ ((c.toNat : Nat) : Int) = 0 := fun e => hc (UInt8.toNat.inj (by show c.toNat = 0; omega))
        have HM : Hid (QuoMid s (T0 ++ [c]) l1 0) := .inl ⟨rfl, by rw [HS.out, esc_app]; simp [esc, hc]⟩
        have hcw : IntKind.u8.wrap ((c.toNat : Nat) : Int) = ((c.toNat : Nat) : Int) := by rw [IntKind.wrap_u8']; have := c.toNat_lt; omega
        go_wp2_with (first
          | (go_at_call 42; refine cE.out.mono ?_; clear cE; rintro x v1 ⟨rfl, rfl⟩)
          | (go_at_call 43; (refine cO.out.mono ?_; clear cO; rintro x v2 ⟨rfl, hrd, hch⟩; have HR2 := Lib.hid (HR1.out.read HBR.out.1 HBR.out.2 hrd hch); clear hrd hch))
          | (go_at_call 56; refine (bd_byte b G T0 c _ HR2.out.bd (by omega)).mono ?_; rintro x v4 ⟨G2, rfl, hbd, hk, hG⟩; have HZ := Lib.hid (HR2.out.put HBR.out.1 HBR.out.2 hbd hk hG); clear hbd hk hG))
        go_roundw
        case rel => exact ⟨T0 ++ [c], l1, 0, _, by simp only [List.length_append, List.length_cons, List.length_nil] at hl ⊢; omega, HZ.out, HM.out⟩
        case measure => (rw [rdLeft_of HZ.out.rd, HLE.out]; simp only [List.length_cons]; omega)
      subst hc
      have hc0 : (((0 : UInt8).toNat : Nat) : Int) = 0 := rfl
      rw [hc0] at cO
      clear hc0
      cases l1 with
      | nil =>
        have HA : Hid (QuoAns s T0 [] 3) := .inr ⟨by omega, by rw [HS.out]; exact noQ_of noQ_0⟩
        go_wp2_with (first
          | (go_at_call 42; refine cE.out.mono ?_; clear cE; rintro x v1 ⟨rfl, rfl⟩)
          | (go_at_call 43; (refine cO.out.mono ?_; clear cO; rintro x v2 ⟨rfl, hrd, hch⟩; have HR2 := Lib.hid (HR1.out.read HBR.out.1 HBR.out.2 hrd hch); clear hrd hch))
          | (go_at_call 43; (have hq2 := rd_short [] 1 (by simp); have h2 := oct_rdone r _ (by rw [B_size]; unfold maxLen; simp only [List.length_cons, List.length_nil] at hl ⊢; omega) _ _ HR2.out.rd; rw [hq2] at h2; refine h2.mono ?_; clear h2 hq2; rintro x v3 ⟨rfl, hrd, hch⟩; have HR3 := Lib.hid (HR2.out.read HBR.out.1 HBR.out.2 hrd hch); clear hrd hch))
          | (go_at_call 36; refine (bd_str b G T0 _ HR3.out.bd (by omega)).mono ?_; rintro x v4 ⟨rfl, hk⟩; have HZ : Hid (RdAt v4 r (B _) _ ∧ Ch r w v4) := ⟨HR3.out.rd.kp hk (by have := HBR.out; omega) (fun g hg => by have := HR3.out.gs g hg; have := HBR.out; omega), hk.ch HR3.out.ch HBR.out.1 HR3.out.gs⟩; clear hk))
        go_ret
        exact ⟨T0, [], 3, rfl, HA.out, by simp, by omega, HZ.out.1, HZ.out.2⟩
      | cons d l2 =>
        by_cases hd : d = 255
        · subst hd
          have HD2 : Hid (rdNum (B (255 :: l2)) 0 1 = (255, B l2, 0)) := rd1_cons 255 l2
          have HM : Hid (QuoMid s (T0 ++ [0]) l2 0) := .inl ⟨rfl, by rw [HS.out, esc_app]; simp [esc]⟩
          go_wp2_with (first
            | (go_at_call 42; refine cE.out.mono ?_; clear cE; rintro x v1 ⟨rfl, rfl⟩)
            | (go_at_call 43; (refine cO.out.mono ?_; clear cO; rintro x v2 ⟨rfl, hrd, hch⟩; have HR2 := Lib.hid (HR1.out.read HBR.out.1 HBR.out.2 hrd hch); clear hrd hch))
            | (go_at_call 43; (have hq2 := HD2.out; have h2 := oct_rdone r _ (by rw [B_size]; unfold maxLen; simp only [List.length_cons, List.length_nil] at hl ⊢; omega) _ _ HR2.out.rd; rw [hq2] at h2; refine h2.mono ?_; clear h2 hq2; rintro x v3 ⟨rfl, hrd, hch⟩; have HR3 := Lib.hid (HR2.out.read HBR.out.1 HBR.out.2 hrd hch); clear hrd hch))
            | (go_at_call 56; refine (bd_byte b G T0 0 _ HR3.out.bd (by omega)).mono ?_; rintro x v4 ⟨G2, rfl, hbd, hk, hG⟩; have HZ := Lib.hid (HR3.out.put HBR.out.1 HBR.out.2 hbd hk hG); clear hbd hk hG))
          go_roundw
          case rel => exact ⟨T0 ++ [0], l2, 0, _, by simp only [List.length_append, List.length_cons, List.length_nil] at hl ⊢; omega, HZ.out, HM.out⟩
          case measure => (rw [rdLeft_of HZ.out.rd, HLE.out]; simp only [List.length_cons]; omega)
        · by_cases hd0 : d = 0
          · subst hd0
            have HD2 : Hid (rdNum (B (0 :: l2)) 0 1 = (0, B l2, 0)) := rd1_cons 0 l2
            have HA : Hid (QuoAns s T0 l2 0) := .inl ⟨rfl, HS.out⟩
            have hls : Hid (l2.length ≤ s.length) := by unfold Hid; simp only [List.length_cons] at hl; omega
            go_wp2_with (first
              | (go_at_call 42; refine cE.out.mono ?_; clear cE; rintro x v1 ⟨rfl, rfl⟩)
              | (go_at_call 43; (refine cO.out.mono ?_; clear cO; rintro x v2 ⟨rfl, hrd, hch⟩; have HR2 := Lib.hid (HR1.out.read HBR.out.1 HBR.out.2 hrd hch); clear hrd hch))
              | (go_at_call 43; (have hq2 := HD2.out; have h2 := oct_rdone r _ (by rw [B_size]; unfold maxLen; simp only [List.length_cons, List.length_nil] at hl ⊢; omega) _ _ HR2.out.rd; rw [hq2] at h2; refine h2.mono ?_; clear h2 hq2; rintro x v3 ⟨rfl, hrd, hch⟩; have HR3 := Lib.hid (HR2.out.read HBR.out.1 HBR.out.2 hrd hch); clear hrd hch))
              | (go_at_call 36; refine (bd_str b G T0 _ HR3.out.bd (by omega)).mono ?_; rintro x v4 ⟨rfl, hk⟩; have HZ : Hid (RdAt v4 r (B _) _ ∧ Ch r w v4) := ⟨HR3.out.rd.kp hk (by have := HBR.out; omega) (fun g hg => by have := HR3.out.gs g hg; have := HBR.out; omega), hk.ch HR3.out.ch HBR.out.1 HR3.out.gs⟩; clear hk))
            go_ret
            exact ⟨T0, l2, 0, rfl, HA.out, hls.out, by omega, HZ.out.1, HZ.out.2⟩
          · have hd1 : ¬ ((d.toNat : Nat) : Int) = 0 := fun e => hd0 (UInt8.toNat.inj (by show d.toNat = 0; omega))
            have hd2 : ¬ ((d.toNat : Nat) : Int) = 255 := fun e => hd (UInt8.toNat.inj (by show d.toNat = 255; omega))
            have HM : Hid (QuoMid s T0 l2 20) := .inr ⟨by omega, by rw [HS.out]; exact noQ_of (noQ_0d l2 hd0 hd)⟩
            go_wp2_with (first
              | (go_at_call 42; refine cE.out.mono ?_; clear cE; rintro x v1 ⟨rfl, rfl⟩)
              | (go_at_call 43; (refine cO.out.mono ?_; clear cO; rintro x v2 ⟨rfl, hrd, hch⟩; have HR2 := Lib.hid (HR1.out.read HBR.out.1 HBR.out.2 hrd hch); clear hrd hch))
              | (go_at_call 43; (have hq2 := rd1_cons d l2; have h2 := oct_rdone r _ (by rw [B_size]; unfold maxLen; simp only [List.length_cons, List.length_nil] at hl ⊢; omega) _ _ HR2.out.rd; rw [hq2] at h2; refine h2.mono ?_; clear h2 hq2; rintro x v3 ⟨rfl, hrd, hch⟩; have HR3 := Lib.hid (HR2.out.read HBR.out.1 HBR.out.2 hrd hch); clear hrd hch))
              | (go_at_call 46; refine (oct_fail r _ _ 20 _ HR3.out.rd).mono ?_; rintro x v4 ⟨rfl, hrd, hch⟩; rw [rdFail_0] at hrd; have HZ := Lib.hid (HR3.out.read HBR.out.1 HBR.out.2 hrd hch); clear hrd hch))
            go_roundw
            case rel => exact ⟨T0, l2, 20, _, by simp only [List.length_append, List.length_cons, List.length_nil] at hl ⊢; omega, HZ.out, HM.out⟩
            case measure => (rw [rdLeft_of HZ.out.rd, HLE.out]; simp only [List.length_cons]; omega)
end Go.Proofs.YtckklikfikeokaaDoor
