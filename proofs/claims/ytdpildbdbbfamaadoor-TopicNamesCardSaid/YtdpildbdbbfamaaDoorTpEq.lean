/- Layer 20: what the document says of names is what the code says; two rows of equal texts are equal. -/
import Derived.Test.YtdpildbdbbfamaaDoorTpKey
import Derived.Test.YtdpildbdbbfamaaDoorTpRKey
import Derived.Test.YtdpildbdbbfamaaDoorTpMatch2
namespace Go.Proofs.YtdpildbdbbfamaaDoor
open Go.RowKit Go.Shelf
set_option linter.unusedVariables false
set_option linter.unusedSimpArgs false
set_option maxRecDepth 100000
set_option maxHeartbeats 2000000
theorem good_plain (c : UInt8) : goodL.contains c = plainB c := by
  have h : ∀ n : Fin 256, goodL.contains (UInt8.ofNat n.1) = plainB (UInt8.ofNat n.1) := by decide +kernel
  have h2 := h ⟨c.toNat, c.toNat_lt⟩
  simpa using h2
theorem rname_eq (s : List UInt8) : rnameB s = nameB s := by
  unfold rnameB nameB
  have e : (fun c => goodL.contains c) = plainB := funext good_plain
  rw [e]
  cases s with
  | nil => rfl
  | cons c s =>
    simp only [List.isEmpty_cons, Bool.not_false, Bool.true_and, List.length_cons]
    rw [Bool.and_comm]
    have : decide (0 < s.length + 1) = true := by simp
    rw [this, Bool.true_and]
theorem rkey_eq (s : List UInt8) : rkeyB s = keyB s := by
  unfold rkeyB keyB allB
  rw [Bool.and_comm, show rnameB = nameB from funext rname_eq]
theorem rpat_eq (s : List UInt8) : rpatB s = patB s := by
  unfold rpatB patB allB
  rw [Bool.and_comm, show rpatW = patW from funext (fun w => by unfold rpatW patW; rw [rname_eq])]
theorem rright_eq (kind : Int) (s : List UInt8) : rrightB kind s = rightB kind s := by
  unfold rrightB rightB
  rw [rkey_eq, rpat_eq]
theorem eq_same (xs : List ByteArray) (hl : xs.length ≤ 5000) (A A2 : Option Addr) (c c2 : Nat) (w : World) (h1 : SliceAt w A 1 strCell xs) (h2 : SliceAt w A2 1 strCell' xs) : Calls Tryd.prog 20 #[.slice A xs.length c, .slice A2 xs.length c2] w fun r w' => r = .returned (.bool true) ∧ Gr w w' := by
  rcases h1 with rfl | ⟨a1, o1, rfl, hc1⟩
  · refine (Tryd.slices_Equal_string_empty A A2 c 0 c2 w (by decide)).mono ?_
    rintro r w' ⟨rfl, rfl⟩
    exact ⟨rfl, Gr.refl _⟩
  rcases h2 with rfl | ⟨a2, o2, rfl, hc2⟩
  · refine (Tryd.slices_Equal_string_empty _ _ c 0 c2 w (by decide)).mono ?_
    rintro r w' ⟨rfl, rfl⟩
    exact ⟨rfl, Gr.refl _⟩
  have hget : ∀ j, j < xs.length → xs[j]? = some (xs.getD j ByteArray.empty) := fun j hj => by
    simp [List.getElem?_eq_getElem hj]
  refine (Tryd.slices_Equal_string a1 o1 xs.length c a2 o2 xs.length c2 xs xs w (Nat.le_refl _) (Nat.le_refl _) (by omega) (by omega) (fun j hj => ?_) (fun j hj => ?_)).mono ?_
  · have h := hc1 j _ (hget j hj) 0 _ rfl
    simpa using h
  · have h := hc2 j _ (hget j hj) 0 _ rfl
    simpa using h
  · rintro r w' ⟨rfl, q, rfl⟩
    exact ⟨by simp, (Gr.refl _).drewN q⟩
end Go.Proofs.YtdpildbdbbfamaaDoor
