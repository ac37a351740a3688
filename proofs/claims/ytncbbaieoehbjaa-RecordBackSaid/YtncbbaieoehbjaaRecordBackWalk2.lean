/- The law RecordBack: its arguments opened. -/
import Derived.Test.YtncbbaieoehbjaaRecordBackWalk
import Derived.Test.YtncbbaieoehbjaaRecordOpen
namespace Go.Proofs.Ytncbbaieoehbjaa
open Go.RowKit Go.ChangeShapes Go.WideShapes Go.ChangeAt
set_option linter.unusedVariables false
set_option maxRecDepth 100000
theorem walk_RecordBack {H : Type} {enc : TypeId × Value → H} {w : World} (v : Value) {d : DataW H} {p : List MemPlace} (hv : Value.okWide Try.prog w .any 0 25 v) (h : DataW.Trod enc Try.prog w 0 (fun _ => true) true 25 v d p)
    (v2 : Value) {d2 : DataW H} {p2 : List MemPlace} (hv2 : Value.okWide Try.prog w .any 0 27 v2) (h2 : DataW.Trod enc Try.prog w 0 (fun _ => true) true 27 v2 d2 p2)
    (a : Int) (wa : (Lit.int .u16 a).wf = true) (s : ByteArray) (hs : s.size ≤ maxLen) :
    Calls Try.prog 4 #[v, v2, .int .u16 a, .string s] w fun e w' => e = .returned (.bool true) ∧ Gr w w' := by
  obtain ⟨nm, most, ttl, tries, dead, rfl, e0, e1, e2, e3, e4⟩ := open_queue hv h
  obtain ⟨mq, id, mtr, mttl, body, rfl, k0, k1, k2, k3, k4⟩ := open_message hv2 h2
  obtain ⟨n, rfl, hn⟩ := nat_u16 wa
  exact walk_RecordBack_ nm most ttl tries dead e1 e2 e3 e4 mq id mtr mttl body k1 k2 k3 k4 n hn s hs w
end Go.Proofs.Ytncbbaieoehbjaa
