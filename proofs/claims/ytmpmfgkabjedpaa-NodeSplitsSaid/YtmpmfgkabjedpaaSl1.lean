/- Layer 6: a key's and a cell's bytes. -/
import Derived.Test.YtmpmfgkabjedpaaOctWr
import Derived.Test.YtmpmfgkabjedpaaOctText
import Derived.Test.YtmpmfgkabjedpaaOwn
import Derived.Laws.EntriesVeiled
import Derived.Deep.RegionHeld3
namespace Go.Proofs.Ytmpmfgkabjedpaa
open Go.RowKit
set_option linter.unusedVariables false
set_option linter.unusedSimpArgs false
set_option maxRecDepth 100000
set_option maxHeartbeats 2000000
def clipB (s : ByteArray) (m : Nat) : ByteArray := s.extract 0 (min s.size m)
theorem clipB_size (s : ByteArray) (m : Nat) : (clipB s m).size = min s.size m := by unfold clipB; rw [ByteArray.size_extract]; omega
theorem clipB_all (s : ByteArray) (m : Nat) (h : s.size ≤ m) : clipB s m = s := by
  unfold clipB
  rw [Nat.min_eq_left h]
  exact ByteArray.extract_zero_size
def keyBytes (k : ByteArray) : ByteArray := B (Oct.be (clipB k 255).size 1) ++ clipB k 255
theorem keyBytes_size (k : ByteArray) : (keyBytes k).size = 1 + min k.size 255 := by unfold keyBytes; rw [ByteArray.size_append, B_be_size, clipB_size]
abbrev Ce := ByteArray × ByteArray × Nat × Nat
def ceCell (x : Ce) : List Value := [.string x.1, .string x.2.1, .int .u32 (x.2.2.1 : Nat), .int .u32 (x.2.2.2 : Nat)]
def ceOk (x : Ce) : Prop := x.1.size ≤ 60000 ∧ x.2.1.size ≤ 60000 ∧ x.2.2.1 < 4294967296 ∧ x.2.2.2 < 4294967296
def ceBytes (x : Ce) : ByteArray :=
  if x.2.2.1 ≠ 0 then keyBytes x.1 ++ B (Oct.be 1 1) ++ B (Oct.be x.2.2.1 4) ++ B (Oct.be x.2.2.2 4)
  else keyBytes x.1 ++ B (Oct.be 0 1) ++ B (Oct.be (clipB x.2.1 65535).size 2) ++ clipB x.2.1 65535
def kiBytes (k : ByteArray) (p : Nat) : ByteArray := keyBytes k ++ B (Oct.be p 4)
theorem sl_clip (s : ByteArray) (hs : s.size ≤ 1000000) (m : Nat) (hm : m ≤ 100000) (w : World) :
    Calls Try.prog 109 #[.string s, .int .i64 (m : Nat)] w fun r w' => r = .returned (.string (clipB s m)) ∧ w = w' := by
  by_cases h : s.size ≤ m
  · have HC := Lib.hid (clipB_all s m h)
    by_cases h2 : s.size = m
    · subst h2
      go_enter Try.func109, Try.ntmps109
      go_wp2
      go_ret
      exact ⟨ret_str (by first | exact HC.out.symm | (rw [HC.out]; exact ByteArray.extract_zero_size)), rfl⟩
    · have h3 : (s.size : Int) < (m : Int) := by omega
      go_enter Try.func109, Try.ntmps109
      go_wp2
      go_ret
      exact ⟨ret_str (by first | exact HC.out.symm | (rw [HC.out]; exact ByteArray.extract_zero_size)), rfl⟩
  · have HC : Hid (clipB s m = s.extract 0 m) := by unfold Hid clipB; rw [Nat.min_eq_right (by omega)]
    have h3 : (m : Int) < (s.size : Int) := by omega
    have h4 : (m : Int) ≤ (s.size : Int) := by omega
    have h5 : ¬ (s.size : Int) < (m : Int) := by omega
    go_enter Try.func109, Try.ntmps109
    go_wp2
    go_ret
    exact ⟨ret_str HC.out.symm, rfl⟩
theorem sl_putKey (k : ByteArray) (hs : k.size ≤ 1000000) (w : World) :
    Calls Try.prog 74 #[.string k] w fun r w' => r = .returned (.string (keyBytes k)) ∧ Gr w w' := by
  have hz := clipB_size k 255
  have cC := fun w1 => Lib.hid (sl_clip k hs 255 (by omega) w1)
  have cO := fun w1 => Lib.hid (oct_one (clipB k 255).size (by omega) w1)
  have hw : IntKind.u8.wrap (((clipB k 255).size : Nat) : Int) = (((clipB k 255).size : Nat) : Int) := by rw [IntKind.wrap_u8']; omega
  have z1 := B_be_size (clipB k 255).size 1
  have HB : Hid (keyBytes k = B (Oct.be (clipB k 255).size 1) ++ clipB k 255) := rfl
  have e0 : ((255 : Nat) : Int) = 255 := rfl
  simp only [e0] at cC
  have hle : (clipB k 255).size ≤ 255 := by omega
  clear hz
  generalize clipB k 255 = c at *
  generalize keyBytes k = q at *
  generalize B (Oct.be c.size 1) = g1 at *
  have hno : ¬ (9223372036854775807 < 1 + c.size) := by omega
  go_enter Try.func74, Try.ntmps74
  go_wp2_with (first
    | (go_at_call 109; refine (cC _).out.mono ?_; rintro r v1 ⟨rfl, rfl⟩)
    | (go_at_call 108; refine (cO _).out.mono ?_; rintro r v2 ⟨rfl, hg⟩))
  go_ret
  exact ⟨ret_str HB.out.symm, hg⟩
end Go.Proofs.Ytmpmfgkabjedpaa
