/- A slice the call owns: a literal, an append of a whole slice, of none. -/
import Derived.Test.YtdpildbdbbfamaaDoorOwn2
import Derived.Deep.Upon
namespace Go.Proofs.YtdpildbdbbfamaaDoor
open Go.RowKit
set_option linter.unusedVariables false
set_option linter.unusedSimpArgs false
set_option maxRecDepth 100000
set_option maxHeartbeats 2000000
theorem flatMap_at {α : Type} {enc : α → List Value} (k : Nat) (hk : ∀ x, (enc x).length = k) : ∀ (xs : List α) (j : Nat) (u : Value), (xs.flatMap enc)[j]? = some u → ∃ i x t, xs[i]? = some x ∧ (enc x)[t]? = some u ∧ j = i * k + t
  | [], j, u, h => by simp at h
  | x :: xs, j, u, h => by
    rw [List.flatMap_cons] at h
    rcases Nat.lt_or_ge j (enc x).length with hj | hj
    · rw [List.getElem?_append_left hj] at h
      exact ⟨0, x, j, rfl, h, by omega⟩
    · rw [List.getElem?_append_right hj, hk] at h
      obtain ⟨i, y, t, h1, h2, h3⟩ := flatMap_at k hk xs _ u h
      rw [hk] at hj
      exact ⟨i + 1, y, t, by simpa using h1, h2, by rw [Nat.succ_mul]; omega⟩
theorem slice_news {α : Type} {w : World} {a off k : Nat} {enc : α → List Value} {xs : List α} (hk : ∀ x, (enc x).length = k) (hc : ∀ i x, xs[i]? = some x → ∀ j u, (enc x)[j]? = some u → w.cell? ⟨a, off + i * k + j, none⟩ = some u) :
    ∀ j u, (xs.flatMap enc)[j]? = some u → w.cell? ((⟨a, off, none⟩ : Addr).add j) = some u := by
  intro j u h
  obtain ⟨i, x, t, h1, h2, h3⟩ := flatMap_at k hk xs j u h
  have hadd : (⟨a, off, none⟩ : Addr).add j = ⟨a, off + j, none⟩ := by unfold Addr.add; split <;> simp_all
  rw [hadd, h3, ← Nat.add_assoc]
  exact hc i x h1 t u h2
theorem Own.lit {α : Type} {w : World} {base e k g : Nat} {enc : α → List Value} {xs : List α} {cs : Array Value} (hg : w.heap[g]? = some (.cells cs e (0, 0))) (hb : base ≤ g) (hx : cs.toList = xs.flatMap enc) (hl : (xs.flatMap enc).length = xs.length * k) (hm : xs.length ≤ maxLen) :
    Own w base e k enc (some ⟨g, 0, none⟩) xs.length xs :=
  ⟨hl, .inr ⟨g, xs.length, cs, rfl, hb, hg, Nat.le_refl _, hm, by rw [← Array.length_toList, hx, hl], by rw [hx, ← hl, List.take_length]⟩⟩
theorem wpList_append_none {P : Program} {ops : Array Oper} {rest : List Oper} {o : Oper} {a : Act} {Q : Exit → Act → World → Prop} (w : World) (hgd : o.guard = none) (s x : Operand) (t : TypeId)
    (ho : o.op = .call { callee := .builtin .append, args := #[s, x], argTypes := #[t, t] }) (e : TypeId) (i : TypeInfo) (ht : P.underlying t = some (.slice e)) (hi : P.info? e = some i)
    (base : Option Addr) (sLen sCap : Nat) (hle : sLen ≤ sCap) (A : Option Addr) (cap : Nat) (hs : a.eval s = .slice base sLen sCap) (hx : a.eval x = .slice A 0 cap)
    (h : wpList P ops Q rest (a.put o.dst (.slice base sLen sCap)) w) : wpList P ops Q (o :: rest) a w :=
  wpList_plain hgd fun _ hK => by
    have hr : (Builtin.append_ #[t, t] o.type #[.slice base sLen sCap, .slice A 0 cap]).run P w = .ok (.slice base sLen sCap) w := by
      refine run_append_nothing w t t _ e i ht hi base sLen sCap hle _ ?_
      cases A with
      | none => exact Src.ofNil w ht cap
      | some a => exact Src.ofSlice w ht a 0 cap [] (by simp) (fun j u hu => by simp at hu) (fun u hu => by cases hu)
    unfold Oper.wp execOp
    simp only [ho, resolve, invoke, builtin, Sem.run_bind, Sem.run_pure, Result.andThen_ok, List.map_toArray, List.map_cons, List.map_nil, hs, hx, hr]
    exact hK _ _ h
theorem Own.cons_of {α : Type} {w : World} {base e k g c : Nat} {enc : α → List Value} {x : α} {l : List α} (h : w.ownsRow base e k (.slice (some ⟨g, 0, none⟩) (1 + l.length) c) (1 + l.length) ([x].flatMap enc ++ l.flatMap enc)) : Own w base e k enc (some ⟨g, 0, none⟩) c (x :: l) := by
  have e1 : (x :: l).length = 1 + l.length := by simp; omega
  have e2 : (x :: l).flatMap enc = [x].flatMap enc ++ l.flatMap enc := by simp
  unfold Own
  rw [e1, e2]
  exact h
theorem cells_len {α : Type} {enc : α → List Value} (k : Nat) (hk : ∀ x, (enc x).length = k) (l : List α) : (l.flatMap enc).length = l.length * k := by
  induction l with
  | nil => simp
  | cons p l ih => rw [List.flatMap_cons, List.length_append, ih, hk, List.length_cons, Nat.succ_mul]; omega
theorem cells_one {α : Type} {enc : α → List Value} (h1 : ∀ x, ∀ u ∈ enc x, u.oneCell' = true) (l : List α) : ∀ u ∈ l.flatMap enc, u.oneCell' = true := by
  intro u hu
  obtain ⟨p, _, hp⟩ := List.mem_flatMap.1 hu
  exact h1 p u hp
/-- an append of a whole slice to a row of the call's own -/
theorem Own.app {α : Type} {w : World} {base e k g c : Nat} {enc : α → List Value} {xs l : List α} (h : w.ownsRow base e k (.slice (some ⟨g, 0, none⟩) (xs.length + l.length) c) (xs.length + l.length) (xs.flatMap enc ++ l.flatMap enc)) : Own w base e k enc (some ⟨g, 0, none⟩) c (xs ++ l) := by
  unfold Own
  rw [List.length_append, List.flatMap_append]
  exact h
end Go.Proofs.YtdpildbdbbfamaaDoor
