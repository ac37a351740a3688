/- sort.Search, with whatever closure that leaves what was there. (After the shelf's own proof.) -/
import Derived.Test.YtmpmfgkabjedpaaBase
import Derived.Deep.LoopGhost
import Derived.Shelf.RegionOpenPlain
import Derived.Sort.Walk0
namespace Go.Proofs.Ytmpmfgkabjedpaa
open Go.RowKit Go.Lib
set_option linter.unusedVariables false
set_option linter.unusedSimpArgs false
set_option maxRecDepth 100000
set_option maxHeartbeats 2000000
theorem so_search (g : Nat) (cb : Array Value) (n : Nat) (p : Nat → Bool) (w : World) (eg : ∀ args w, (callFunc g args).run Try.prog w = .ok (.enter g args) w) (hsz : n < 4611686018427387904)
    (hf : ∀ (W : World) (i : Nat), Gr w W → i < n → Calls Try.prog g (#[.int .i64 i] ++ cb) W fun e w' => e = .returned (.bool (p i)) ∧ Gr W w')
    (hmono : ∀ a b, a ≤ b → b < n → p a = true → p b = true) :
    Calls Try.prog 103 #[.int .i64 n, .func (.func g) #[] cb] w fun e w' => ∃ k : Nat, e = .returned (.int .i64 (k : Nat)) ∧ k ≤ n ∧ (∀ t, t < k → p t = false) ∧ (∀ t, k ≤ t → t < n → p t = true) ∧ Gr w w' := by
  have HF := Lib.hid hf
  have M := Lib.hid hmono
  clear hf hmono
  go_enter Try.func103, Try.ntmps103
  go_wp2
  go_loopg [5, 6] n (fun kx s5 s6 wr => ∃ (lo hi : Nat), s5 = .int .i64 lo ∧ s6 = .int .i64 hi ∧ lo ≤ hi ∧ hi ≤ n ∧ hi - lo ≤ kx ∧ Hid (Gr w wr) ∧
    Hid ((∀ t, t < lo → p t = false) ∧ (∀ t, hi ≤ t → t < n → p t = true)))
  case atStart => exact ⟨0, n, rfl, rfl, Nat.zero_le _, Nat.le_refl _, by omega, Gr.refl _, ⟨fun t ht => absurd ht (Nat.not_lt_zero _), fun t h1 h2 => by omega⟩⟩
  case round =>
    obtain ⟨lo, hi, rfl, rfl, hlh, hin, hg, HG, I⟩ := hrel
    by_cases hlt : lo < hi
    · have hc := HF.out wr ((lo + hi) / 2) HG.out (by omega)
      rw [show (((lo + hi) / 2 : Nat) : Int) = ((lo : Int) + (hi : Int)) / 2 by omega] at hc
      cases hp : p ((lo + hi) / 2) <;> rw [hp] at hc
      · have HP := Lib.hid hp
        clear hp
        go_wp2_with (go_at_fn g; refine hc.mono ?_; rintro e w' ⟨rfl, hgg⟩)
        have HG2 : Hid (Gr w w') := HG.out.trans hgg
        clear hgg
        go_roundg (hi - ((lo + hi) / 2 + 1))
        case measure => omega
        case rel =>
          have I2 : Hid ((∀ t, t < (lo + hi) / 2 + 1 → p t = false) ∧ (∀ t, hi ≤ t → t < n → p t = true)) := ⟨fun t ht => (by
            cases h : p t with
            | false => rfl
            | true => have := M.out t ((lo + hi) / 2) (by omega) (by omega) h; rw [HP.out] at this; cases this), I.out.2⟩
          exact ⟨(lo + hi) / 2 + 1, hi, by rw [show ((lo : Int) + (hi : Int)) / 2 + 1 = (((lo + hi) / 2 + 1 : Nat) : Int) by omega], rfl, by omega, hin, Nat.le_refl _, HG2, I2⟩
      · have HP := Lib.hid hp
        clear hp
        go_wp2_with (go_at_fn g; refine hc.mono ?_; rintro e w' ⟨rfl, hgg⟩)
        have HG2 : Hid (Gr w w') := HG.out.trans hgg
        clear hgg
        go_roundg ((lo + hi) / 2 - lo)
        case measure => omega
        case rel =>
          have I2 : Hid ((∀ t, t < lo → p t = false) ∧ (∀ t, (lo + hi) / 2 ≤ t → t < n → p t = true)) := ⟨I.out.1, fun t ht htn => M.out ((lo + hi) / 2) t ht htn HP.out⟩
          exact ⟨lo, (lo + hi) / 2, rfl, by rw [show ((lo : Int) + (hi : Int)) / 2 = (((lo + hi) / 2 : Nat) : Int) by omega], by omega, by omega, Nat.le_refl _, HG2, I2⟩
    · obtain rfl : hi = lo := by omega
      go_wp2
      go_ret
      exact ⟨hi, rfl, hin, I.out.1, I.out.2, HG.out⟩
/-- the first whose key isn't below k -/
def fdAt {α : Type} (key : α → ByteArray) (xs : List α) (k : ByteArray) : Nat := xs.findIdx (fun x => !Op.bytesLess (key x).toList k.toList)
def fdIs {α : Type} (key : α → ByteArray) (xs : List α) (k : ByteArray) : Bool := match xs[fdAt key xs k]? with | some x => (key x).toList == k.toList | none => false
theorem fdAt_le {α : Type} (key : α → ByteArray) (xs : List α) (k : ByteArray) : fdAt key xs k ≤ xs.length := List.findIdx_le_length
theorem fdAt_of {α : Type} (key : α → ByteArray) (xs : List α) (k : ByteArray) (p : Nat → Bool) (n : Nat) (hn : n ≤ xs.length) (hp : ∀ i x, xs[i]? = some x → p i = !Op.bytesLess (key x).toList k.toList) (h1 : ∀ t, t < n → p t = false) (h2 : ∀ t, n ≤ t → t < xs.length → p t = true) : n = fdAt key xs k := by
  unfold fdAt
  symm
  by_cases hlt : n < xs.length
  · rw [List.findIdx_eq hlt]
    refine ⟨?_, fun j hj => ?_⟩
    · rw [← hp n _ (List.getElem?_eq_getElem hlt)]; exact h2 n (Nat.le_refl _) hlt
    · rw [← hp j _ (List.getElem?_eq_getElem (by omega))]; exact h1 j hj
  · obtain rfl : n = xs.length := by omega
    rw [List.findIdx_eq_length]
    intro x hx
    obtain ⟨i, hi, rfl⟩ := List.mem_iff_getElem.1 hx
    rw [← hp i _ (List.getElem?_eq_getElem hi)]; exact h1 i hi
end Go.Proofs.Ytmpmfgkabjedpaa
