/- Layer 19: a queue and a message that came in, opened. -/
import Derived.Test.YtncbbaieoehbjaaOpenFive
import Derived.Test.YtncbbaieoehbjaaOctBig
namespace Go.Proofs.Ytncbbaieoehbjaa
open Go.RowKit Go.ChangeShapes Go.WideShapes Go.ChangeAt
set_option linter.unusedVariables false
set_option maxRecDepth 100000
theorem open_queue {H : Type} {enc : TypeId × Value → H} {w : World} {v : Value} {d : DataW H} {p : List MemPlace} (hv : Value.okWide Try.prog w .any 0 25 v) (h : DataW.Trod enc Try.prog w 0 (fun _ => true) true 25 v d p) :
    ∃ (nm : ByteArray) (most ttl tries : Nat) (dead : ByteArray), v = .agg #[.string nm, .int .u32 (most : Nat), .int .u64 (ttl : Nat), .int .u32 (tries : Nat), .string dead] ∧ nm.size ≤ maxLen ∧ most < 4294967296 ∧ U64 ttl ∧ tries < 4294967296 ∧ dead.size ≤ maxLen := by
  obtain ⟨v0, v1, v2, v3, v4, y0, y1, y2, y3, y4, n, rfl, h0, h1, h2, h3, h4⟩ := open_agg5 Try.underlying25 (by kernel_rfl) (by kernel_rfl) hv h
  obtain ⟨a0, e0, _, b0⟩ := DataW.trod_string Try.underlying9 h0
  obtain ⟨a1, e1, _, b1⟩ := DataW.trod_int Try.underlying22 h1
  obtain ⟨a2, e2, _, b2⟩ := DataW.trod_int Try.underlying23 h2
  obtain ⟨a3, e3, _, b3⟩ := DataW.trod_int Try.underlying22 h3
  obtain ⟨a4, e4, _, b4⟩ := DataW.trod_string Try.underlying9 h4
  simp only [List.cons.injEq, and_true] at e0 e1 e2 e3 e4
  subst e0 e1 e2 e3 e4
  obtain ⟨n1, rfl, c1⟩ := nat_u32' b1
  obtain ⟨n2, rfl, c2⟩ := nat_u64 b2
  obtain ⟨n3, rfl, c3⟩ := nat_u32' b3
  exact ⟨a0, n1, n2, n3, a4, rfl, b0, c1, c2, c3, b4⟩
theorem open_message {H : Type} {enc : TypeId × Value → H} {w : World} {v : Value} {d : DataW H} {p : List MemPlace} (hv : Value.okWide Try.prog w .any 0 27 v) (h : DataW.Trod enc Try.prog w 0 (fun _ => true) true 27 v d p) :
    ∃ (nm : ByteArray) (id tries ttl : Nat) (body : ByteArray), v = .agg #[.string nm, .int .u64 (id : Nat), .int .u32 (tries : Nat), .int .u64 (ttl : Nat), .string body] ∧ nm.size ≤ maxLen ∧ U64 id ∧ tries < 4294967296 ∧ U64 ttl ∧ body.size ≤ maxLen := by
  obtain ⟨v0, v1, v2, v3, v4, y0, y1, y2, y3, y4, n, rfl, h0, h1, h2, h3, h4⟩ := open_agg5 Try.underlying27 (by kernel_rfl) (by kernel_rfl) hv h
  obtain ⟨a0, e0, _, b0⟩ := DataW.trod_string Try.underlying9 h0
  obtain ⟨a1, e1, _, b1⟩ := DataW.trod_int Try.underlying23 h1
  obtain ⟨a2, e2, _, b2⟩ := DataW.trod_int Try.underlying22 h2
  obtain ⟨a3, e3, _, b3⟩ := DataW.trod_int Try.underlying23 h3
  obtain ⟨a4, e4, _, b4⟩ := DataW.trod_string Try.underlying9 h4
  simp only [List.cons.injEq, and_true] at e0 e1 e2 e3 e4
  subst e0 e1 e2 e3 e4
  obtain ⟨n1, rfl, c1⟩ := nat_u64 b1
  obtain ⟨n2, rfl, c2⟩ := nat_u32' b2
  obtain ⟨n3, rfl, c3⟩ := nat_u64 b3
  exact ⟨a0, n1, n2, n3, a4, rfl, b0, c1, c2, c3, b4⟩
end Go.Proofs.Ytncbbaieoehbjaa
