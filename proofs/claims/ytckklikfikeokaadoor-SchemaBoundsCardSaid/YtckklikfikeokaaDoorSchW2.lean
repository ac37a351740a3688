/- Layer 18: the bounds under a key; the chapter's example; the texts gone through. -/
import Derived.Test.YtckklikfikeokaaDoorSchW1
namespace Go.Proofs.YtckklikfikeokaaDoor
open Go.RowKit
set_option linter.unusedVariables false
set_option linter.unusedSimpArgs false
set_option maxRecDepth 100000
set_option maxHeartbeats 2000000
theorem sc_under (S : ByteArray) (hS : S.size ≤ 10000) (A : Option Addr) (cap : Nat) (l : List Pa) (hl : l.length ≤ 1000) (hcap : l.length ≤ cap) (hcm : cap ≤ maxLen) (hok : ∀ p ∈ l, paOk p ∧ p.2.2.size ≤ 10000) (hk : (keyB ((true, 0, S) :: l)).length ≤ 255) (w : World) (hml : ∃ m, w.cell? ⟨0, 0, none⟩ = some (.int .i64 m)) (hs : SliceAt w A 3 paCell l) :
    Calls Tryd.prog 11 #[.string S, .slice A l.length cap] w fun r w' => r = .returned (.tuple #[.string (B (keyB ((true, 0, S) :: l))), .string (aftAns (keyB ((true, 0, S) :: l))).1]) ∧ Gr w w' := by
  have cK := Lib.hid (sc_key S hS A cap l hl hcap hcm hok w hml hs)
  have hka : keyAns ((true, 0, S) :: l) = (B (keyB ((true, 0, S) :: l)), 0) := by unfold keyAns; rw [if_neg (by omega)]
  rw [hka] at cK
  generalize keyB ((true, 0, S) :: l) = K at *
  have cA := fun w1 => Lib.hid (or_after K (by omega) w1)
  generalize aftAns K = an at *
  generalize B K = kb at *
  clear hs hml hok hka
  go_enter Tryd.func11, Tryd.ntmps11
  go_wp2_with (first
    | (go_at_call 29; refine cK.out.mono ?_; clear cK; rintro r v1 ⟨rfl, hg⟩; have HG1 := Lib.hid hg; clear hg)
    | (go_at_call 20; refine (cA _).out.mono ?_; clear cA; rintro r v2 ⟨rfl, hg⟩; have HG2 := Lib.hid (HG1.out.trans hg); clear hg))
  go_ret2
  exact ⟨rfl, HG2.out⟩
theorem sc_under_long (S : ByteArray) (hS : S.size ≤ 10000) (A : Option Addr) (cap : Nat) (l : List Pa) (hl : l.length ≤ 1000) (hcap : l.length ≤ cap) (hcm : cap ≤ maxLen) (hok : ∀ p ∈ l, paOk p ∧ p.2.2.size ≤ 10000) (hk : ¬ (keyB ((true, 0, S) :: l)).length ≤ 255) (w : World) (hml : ∃ m, w.cell? ⟨0, 0, none⟩ = some (.int .i64 m)) (hs : SliceAt w A 3 paCell l) :
    Calls Tryd.prog 11 #[.string S, .slice A l.length cap] w fun r w' => r = .returned (.tuple #[.string .empty, .string .empty]) ∧ Gr w w' := by
  have cK := Lib.hid (sc_key S hS A cap l hl hcap hcm hok w hml hs)
  have hka : keyAns ((true, 0, S) :: l) = (.empty, 5) := by unfold keyAns; rw [if_pos (by omega)]
  rw [hka] at cK
  clear hs hml hok hka hk
  go_enter Tryd.func11, Tryd.ntmps11
  go_wp2_with (go_at_call 29; refine cK.out.mono ?_; clear cK; rintro r v1 ⟨rfl, hg⟩; have HG1 := Lib.hid hg; clear hg)
  go_ret2
  exact ⟨rfl, HG1.out⟩
def strCell (s : ByteArray) : List Value := [.string s]
def shortB (l : List ByteArray) : Bool := l.all fun s => decide (s.size ≤ 400)
theorem law18_light (A : Option Addr) (cap : Nat) (l : List ByteArray) (hcap : l.length ≤ cap) (hcm : cap ≤ maxLen) (w : World) (hs : SliceAt w A 1 strCell l) :
    Calls Tryd.prog 9 #[.slice A l.length cap] w fun r w' => r = .returned (.bool (shortB l)) ∧ Gr w w' := by
  unfold maxLen at hcm
  obtain ⟨fb, hfb⟩ : ∃ fb, fb = shortB l := ⟨_, rfl⟩
  rw [← hfb]
  have HF := Lib.hid hfb
  clear hfb
  have HX := Lib.hid hs
  clear hs
  go_enter Tryd.func9, Tryd.ntmps9
  go_wp2

  go_loopw [7] (fun i wr => ∃ k : Nat, k ≤ l.length ∧ i = .int .i64 (k : Nat) ∧ Hid (Gr w wr ∧ ∀ s ∈ l.take k, s.size ≤ 400)) (fun i _ => l.length - (intOf i).toNat)
  case atStart => exact ⟨0, by omega, rfl, Gr.refl _, fun x hx => by simp at hx⟩
  case round =>
    obtain ⟨k, hk, rfl, HR⟩ := hrel
    by_cases hlt : k < l.length
    · rcases HX.out with h0 | ⟨a, off, rfl, hcell⟩
      · subst h0; simp at hlt
      have hget := List.getElem?_eq_getElem hlt
      have htk : ∀ x, l[k] = x → x.size ≤ 400 → ∀ p ∈ l.take (k + 1), p.size ≤ 400 := by
        intro y hy hf x hx
        rw [List.take_succ_eq_append_getElem hlt] at hx
        rcases List.mem_append.1 hx with hx | hx
        · exact HR.out.2 x hx
        · simp only [List.mem_singleton] at hx; subst hx; rw [hy]; exact hf
      generalize l[k] = x at *
      have htk2 := htk x rfl
      clear htk
      have a0 := HR.out.1.cells (hcell k _ hget 0 _ rfl)
      simp only [Nat.add_zero, Nat.mul_one] at a0
      have HC := Lib.hid (And.intro hget htk2)
      clear hcell hget htk2
      by_cases h5 : 400 < x.size
      · have h5' : (400 : Int) < (x.size : Int) := by omega
        have hff : Hid (fb = false) := by
          unfold Hid; rw [HF.out]
          cases hb : shortB l with
          | false => rfl
          | true => have := List.all_eq_true.1 hb x (List.mem_of_getElem? HC.out.1); simp at this; omega
        obtain rfl := hff.out
        go_wp2
        go_ret
        exact ⟨rfl, HR.out.1⟩
      · have h5' : ¬ (400 : Int) < (x.size : Int) := by omega
        have HT : Hid (Gr w wr ∧ ∀ s ∈ l.take (k + 1), s.size ≤ 400) := ⟨HR.out.1, HC.out.2 (by omega)⟩
        go_wp2
        go_roundw
        case rel => exact ⟨k + 1, by omega, by go_num, HT⟩
        case measure => simp [intOf]; omega
    · obtain rfl : k = l.length := by omega
      have hff : Hid (fb = true) := by
        unfold Hid
        rw [HF.out]
        have h := HR.out.2; rw [List.take_length] at h
        exact List.all_eq_true.2 fun s hs => by simpa using h s hs
      obtain rfl := hff.out
      go_wp2
      go_ret
      exact ⟨rfl, HR.out.1⟩
end Go.Proofs.YtckklikfikeokaaDoor
