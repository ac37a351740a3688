/- The law OrderKeys: its arguments opened. -/
import Derived.Test.YtckklikfikeokaaDoorOrderKeysWalk
import Derived.Test.YtckklikfikeokaaDoorOpenPa
namespace Go.Proofs.YtckklikfikeokaaDoor
open Go.RowKit Go.ChangeShapes Go.WideShapes Go.ChangeAt
set_option linter.unusedVariables false
set_option maxRecDepth 100000
theorem walk_OrderKeys {H : Type} {enc : TypeId × Value → H} {w : World} (v : Value) {d : DataW H} {p : List MemPlace} (hv : Value.okWide Tryd.prog w .any 0 22 v) (h : DataW.Trod enc Tryd.prog w 0 (fun _ => true) true 22 v d p)
    (v2 : Value) {d2 : DataW H} {p2 : List MemPlace} (hv2 : Value.okWide Tryd.prog w .any 0 22 v2) (h2 : DataW.Trod enc Tryd.prog w 0 (fun _ => true) true 22 v2 d2 p2)
    (a2 : ByteArray) (w2 : a2.size ≤ maxLen) (hml : ∃ m, w.cell? ⟨0, 0, none⟩ = some (.int .i64 m)) :
    Calls Tryd.prog 7 #[v, v2, .string a2] w fun e w' => e = .returned (.bool true) ∧ Gr w w' := by
  obtain ⟨A, cap, xs, rfl, g1, g2, g3, g4⟩ := open_pas_list Tryd.underlying22 Tryd.underlying30 (by kernel_rfl) (by kernel_rfl) Tryd.underlying4 Tryd.underlying25 Tryd.underlying9 hv h
  obtain ⟨A2, cap2, xs2, rfl, k1, k2, k3, k4⟩ := open_pas_list Tryd.underlying22 Tryd.underlying30 (by kernel_rfl) (by kernel_rfl) Tryd.underlying4 Tryd.underlying25 Tryd.underlying9 hv2 h2
  obtain ⟨S, rfl⟩ : ∃ S, a2 = B S := ⟨a2.data.toList, rfl⟩
  rw [B_size] at w2
  exact walk_OrderKeys_ A A2 cap cap2 xs xs2 S g1 k1 g2 k2 g3 k3 w2 w g4 k4 hml
end Go.Proofs.YtckklikfikeokaaDoor
