/- strings.Builder with its frame: told. -/
import Derived.Test.YtmpmfgkabjedpaaMgDo04
import Derived.Test.YtmpmfgkabjedpaaMgDo06
import Derived.Test.YtmpmfgkabjedpaaMgDo07
import Derived.Lib.UnsafeStr
import Derived.Shelf.RegionOpenPlain
namespace Go.Proofs.Ytmpmfgkabjedpaa
open Go.RowKit
set_option linter.unusedVariables false
set_option linter.unusedSimpArgs false
set_option maxRecDepth 100000
set_option maxHeartbeats 2000000
theorem kp_freeze (b g : Nat) (w : World) (n : Nat) : Kp b (some g) w (w.freeze ⟨g, 0, none⟩ n) := by
  unfold World.freeze
  split
  · exact ⟨rfl, rfl, rfl, Nat.le_refl _, fun _ _ _ _ => rfl⟩
  · refine ⟨rfl, rfl, rfl, by simp, fun k hk _ hG => ?_⟩
    simp only [Array.getElem?_modify]
    rw [if_neg (fun e => hG (by rw [← e]))]
theorem kp_drew {b : Nat} {G : Option Nat} {w w' : World} (h : Kp b G w.drew w') : Kp b G w w' := ⟨h.os, h.tape, h.output, h.size, h.block⟩
theorem bd_str (b : Nat) (G : Option Nat) (l : List UInt8) (w : World) (h : Bd w b G l) (hlen : l.length ≤ 140737488355328) :
    Calls Try.prog 91 #[.pointer (some ⟨b, 0, none⟩)] w fun e w' => e = .returned (.string ⟨l.toArray⟩) ∧ Kp b G w w' := by
  obtain ⟨p, v, hp, hrow, hown, hne, rfl, hnil⟩ := h
  by_cases h0 : l = []
  · obtain rfl := hnil h0
    subst h0
    have hSD : (Builtin.unsafeSliceData_ #[133] 160 #[.slice none 0 0]).run Try.prog w.drew = .ok (.pointer none) w.drew := rfl
    have hUS : (Builtin.unsafeString_ #[160, 3] 9 #[.pointer none, .int .i64 0]).run Try.prog w.drew = .ok (.string .empty) w.drew := Lib.run_unsafeString_none w.drew _ _ _ _
    have c1 : w.drew.cell? ⟨b, 1, none⟩ = some (.slice none 0 0) := by
      have : w.drew.heap[b]? = some (.cells #[p, .slice none 0 0] 135 (0, 0)) := hrow
      rw [Lib.cell_of_heap this]; rfl
    clear hp hown hne hnil hrow
    have mixed : Try.prog.follows .mixedOrders = true := by kernel_rfl
    go_enter Try.func91, Try.ntmps91
    go_wp2
    go_region_o
    all_goals (go_wp2; go_ret; exact ⟨rfl, ⟨rfl, rfl, rfl, Nat.le_refl _, fun _ _ _ _ => rfl⟩⟩)
  · have hl0 : l.length ≠ 0 := by simpa using h0
    obtain ⟨g, cap, cur, rfl, hbg, hg, hnc, hcm, hcs, htake⟩ : ∃ g cap cur, v = .slice (some ⟨g, 0, none⟩) l.length cap ∧ b ≤ g ∧ w.heap[g]? = some (.cells cur 5 (0, 0)) ∧ l.length ≤ cap ∧ cap ≤ maxLen ∧ cur.size = cap * 1 ∧ cur.toList.take (l.length * 1) = Lib.byteCells l := by
      rcases hown.2 with ⟨_, hz⟩ | ⟨g, cap, cur, hv, r⟩
      · exact absurd hz hl0
      · exact ⟨g, cap, cur, hv, r⟩
    have c1 : w.drew.cell? ⟨b, 1, none⟩ = some (.slice (some ⟨g, 0, none⟩) l.length cap) := by
      have : w.drew.heap[b]? = some (.cells #[p, .slice (some ⟨g, 0, none⟩) l.length cap] 135 (0, 0)) := hrow
      rw [Lib.cell_of_heap this]; rfl
    have hSD : (Builtin.unsafeSliceData_ #[133] 160 #[.slice (some ⟨g, 0, none⟩) l.length cap]).run Try.prog w.drew = .ok (.pointer (some ⟨g, 0, none⟩)) w.drew :=
      Lib.run_unsafeSliceData_row _ _ _ _ _ _ (by omega)
    have hUS : (Builtin.unsafeString_ #[160, 3] 9 #[.pointer (some ⟨g, 0, none⟩), .int .i64 l.length]).run Try.prog w.drew = .ok (.string ⟨l.toArray⟩) (w.drew.freeze ⟨g, 0, none⟩ l.length) := by
      refine Lib.run_unsafeString_row w.drew _ _ _ 5 Try.underlying160 (by kernel_rfl) g cur.size (by have hg' : w.drew.heap[g]? = some (.cells cur 5 (0, 0)) := hg; simp [World.shape?, hg']) l h0 (by omega) (by omega) ?_
      intro j x hx
      exact hown.cells (g := g) rfl j (.int .u8 x.toNat) (by simp [Lib.byteCells, hx])
    clear hp hown hne hnil hrow htake
    have mixed : Try.prog.follows .mixedOrders = true := by kernel_rfl
    go_enter Try.func91, Try.ntmps91
    go_wp2
    go_region_o
    all_goals (go_wp2; go_ret; exact ⟨rfl, kp_drew (kp_freeze b g w.drew _)⟩)
end Go.Proofs.Ytmpmfgkabjedpaa
namespace Go.Proofs.Ytmpmfgkabjedpaa
open Go.RowKit
set_option linter.unusedVariables false
set_option linter.unusedSimpArgs false
/-- where each cell begins, two bytes each -/
def slAt (n : Nat) : List ByteArray → Nat → List UInt8
  | [], _ => []
  | b :: bs, o => Oct.be (2 * n + o) 2 ++ slAt n bs (o + b.size)
def slCells (bs : List ByteArray) : List UInt8 := bs.flatMap (·.data.toList)
def slLen (bs : List ByteArray) : Nat := (bs.map fun b => 2 + b.size).sum
def slBody (er : Int) (bs : List ByteArray) : ByteArray × Int :=
  if er ≠ 0 then (.empty, er) else if 4072 < slLen bs then (.empty, 14) else (⟨(slAt bs.length bs 0 ++ slCells bs).toArray⟩, 0)
theorem slCells_snoc (bs : List ByteArray) (b : ByteArray) : slCells (bs ++ [b]) = slCells bs ++ b.data.toList := by simp [slCells]
theorem slCells_cons (bs : List ByteArray) (b : ByteArray) : slCells (b :: bs) = b.data.toList ++ slCells bs := by simp [slCells]
theorem slAt_snoc (n : Nat) (b : ByteArray) : ∀ (bs : List ByteArray) (o : Nat), slAt n (bs ++ [b]) o = slAt n bs o ++ Oct.be (2 * n + (o + (slCells bs).length)) 2
  | [], o => by simp [slAt, slCells]
  | c :: bs, o => by
    show Oct.be (2 * n + o) 2 ++ slAt n (bs ++ [b]) (o + c.size) = _ ++ slAt n bs (o + c.size) ++ _
    rw [slAt_snoc n b bs (o + c.size), slCells_cons, List.length_append, List.append_assoc]
    have : c.data.toList.length = c.size := by simp
    rw [this, Nat.add_assoc]
theorem slAt_length (n : Nat) : ∀ (bs : List ByteArray) (o : Nat), (slAt n bs o).length = 2 * bs.length
  | [], _ => rfl
  | c :: bs, o => by
    show (Oct.be (2 * n + o) 2 ++ slAt n bs (o + c.size)).length = _
    rw [List.length_append, Oct.be_length, slAt_length n bs, List.length_cons]; omega
theorem slCells_len (bs : List ByteArray) : (slCells bs).length + 2 * bs.length = slLen bs := by
  induction bs with
  | nil => rfl
  | cons b bs ih =>
    have h : slLen (b :: bs) = 2 + b.size + slLen bs := by simp [slLen]
    have : b.data.toList.length = b.size := by simp
    rw [slCells_cons, List.length_append, List.length_cons, h, this]; omega
theorem slCells_take (bs : List ByteArray) (k : Nat) : (slCells (bs.take k)).length ≤ (slCells bs).length := by
  have h : slCells bs = slCells (bs.take k) ++ slCells (bs.drop k) := by
    unfold slCells; rw [← List.flatMap_append, List.take_append_drop]
  rw [h, List.length_append]; omega
theorem Kp.row {b : Nat} {G : Option Nat} {w w' : World} (h : Kp b G w w') {k : Nat} {o : Obj} (hk : w.heap[k]? = some o) (hb : k ≠ b) (hG : ∀ g, G = some g → g ≠ k) : w'.heap[k]? = some o := by
  rw [h.block k (by rcases Nat.lt_or_ge k w.heap.size with h2 | h2; exact h2; rw [Array.getElem?_eq_none h2] at hk; cases hk) hb (fun e => hG k e.symm rfl)]
  exact hk
/-- two builders side by side, and a row ahead of both -/
structure Pr (w wr : World) (g b1 b2 : Nat) (O : Obj) (G1 G2 : Option Nat) (la lc : List UInt8) : Prop where
  gr : Gr w wr
  row : wr.heap[g]? = some O
  d1 : Bd wr b1 G1 la
  d2 : Bd wr b2 G2 lc
  b12 : b1 ≠ b2
  h1 : G1 ≠ some b2
  h2 : G2 ≠ some b1
  h3 : ∀ x, G1 = some x → G2 ≠ some x
  lo : w.heap.size ≤ g ∧ g < b1 ∧ g < b2
theorem Pr.gr' {w wr w' : World} {g b1 b2 : Nat} {O : Obj} {G1 G2 : Option Nat} {la lc : List UInt8} (h : Pr w wr g b1 b2 O G1 G2 la lc) (hg : Gr wr w') : Pr w w' g b1 b2 O G1 G2 la lc :=
  ⟨h.gr.trans hg, (hg.block (by have := h.d1.blk.1; have := h.lo; omega)).trans h.row, h.d1.gr hg, h.d2.gr hg, h.b12, h.h1, h.h2, h.h3, h.lo⟩
theorem Pr.put1 {w wr w' : World} {g b1 b2 : Nat} {O : Obj} {G1 G2 G : Option Nat} {la lc l : List UInt8} (h : Pr w wr g b1 b2 O G1 G2 la lc) (hB : Bd w' b1 G l) (hK : Kp b1 G1 wr w') (hG : G = G1 ∨ ∀ x, G = some x → wr.heap.size ≤ x) : Pr w w' g b1 b2 O G G2 l lc := by
  have k1 := h.d1.blk
  have k2 := h.d2.blk
  have hlo := h.lo
  refine ⟨hK.gr h.gr (by omega) (fun x hx => by have := k1.2 x hx; omega), hK.row h.row (by omega) (fun x hx => by have := k1.2 x hx; omega), hB, h.d2.kept ?_ ?_, h.b12, ?_, h.h2, ?_, h.lo⟩
  · exact hK.block b2 k2.1 (fun e => h.b12 e.symm) (fun e => h.h1 e.symm)
  · intro x hx
    exact hK.block x (k2.2 x hx).2 (fun e => h.h2 (by rw [hx, e])) (fun e => h.h3 x e.symm hx)
  · rcases hG with rfl | hG
    · exact h.h1
    · intro e; have := hG _ e; omega
  · intro x hx he
    rcases hG with rfl | hG
    · exact h.h3 x hx he
    · have := hG _ hx; have := (k2.2 x he).2; omega
theorem Pr.swap {w wr : World} {g b1 b2 : Nat} {O : Obj} {G1 G2 : Option Nat} {la lc : List UInt8} (h : Pr w wr g b1 b2 O G1 G2 la lc) : Pr w wr g b2 b1 O G2 G1 lc la :=
  ⟨h.gr, h.row, h.d2, h.d1, fun e => h.b12 e.symm, h.h2, h.h1, fun x hx he => h.h3 x he hx, h.lo.1, h.lo.2.2, h.lo.2.1⟩
theorem Pr.put2 {w wr w' : World} {g b1 b2 : Nat} {O : Obj} {G1 G2 G : Option Nat} {la lc l : List UInt8} (h : Pr w wr g b1 b2 O G1 G2 la lc) (hB : Bd w' b2 G l) (hK : Kp b2 G2 wr w') (hG : G = G2 ∨ ∀ x, G = some x → wr.heap.size ≤ x) : Pr w w' g b1 b2 O G1 G la l :=
  (h.swap.put1 hB hK hG).swap
theorem Pr.told1 {w wr w' : World} {g b1 b2 : Nat} {O : Obj} {G1 G2 : Option Nat} {la lc : List UInt8} (h : Pr w wr g b1 b2 O G1 G2 la lc) (hK : Kp b1 G1 wr w') : Gr w w' ∧ Bd w' b2 G2 lc := by
  have k1 := h.d1.blk
  have k2 := h.d2.blk
  have hlo := h.lo
  refine ⟨hK.gr h.gr (by omega) (fun x hx => by have := k1.2 x hx; omega), h.d2.kept ?_ ?_⟩
  · exact hK.block b2 k2.1 (fun e => h.b12 e.symm) (fun e => h.h1 e.symm)
  · intro x hx
    exact hK.block x (k2.2 x hx).2 (fun e => h.h2 (by rw [hx, e])) (fun e => h.h3 x e.symm hx)
theorem Pr.xrow1 {w wr w' : World} {g b1 b2 k : Nat} {O o : Obj} {G1 G2 : Option Nat} {la lc : List UInt8} (h : Pr w wr g b1 b2 O G1 G2 la lc) (hK : Kp b1 G1 wr w') (ho : wr.heap[k]? = some o) (hk : k ≠ b1) (hG : ∀ x, G1 = some x → x < k) : w'.heap[k]? = some o :=
  hK.row ho hk (fun x hx => by have := hG x hx; omega)
theorem Pr.xrow2 {w wr w' : World} {g b1 b2 k : Nat} {O o : Obj} {G1 G2 : Option Nat} {la lc : List UInt8} (h : Pr w wr g b1 b2 O G1 G2 la lc) (hK : Kp b2 G2 wr w') (ho : wr.heap[k]? = some o) (hk : k ≠ b2) (hG : ∀ x, G2 = some x → x < k) : w'.heap[k]? = some o :=
  hK.row ho hk (fun x hx => by have := hG x hx; omega)
theorem Pr.new (w W : World) (g : Nat) (O : Obj) (hg : Gr w W) (hr : W.heap[g]? = some O) (hlo : w.heap.size ≤ g) :
    Pr w ((W.alloc (.cells #[.pointer none, .slice none 0 0] 135)).alloc (.cells #[.pointer none, .slice none 0 0] 135)) g W.heap.size (W.heap.size + 1) O none none [] [] := by
  have hlt : g < W.heap.size := by
    rcases Nat.lt_or_ge g W.heap.size with h2 | h2
    · exact h2
    · rw [Array.getElem?_eq_none h2] at hr; cases hr
  have hG : Gr W ((W.alloc (.cells #[.pointer none, .slice none 0 0] 135)).alloc (.cells #[.pointer none, .slice none 0 0] 135)) := ((Gr.refl W).alloc _).alloc _
  refine ⟨hg.trans hG, (hG.block hlt).trans hr, (Bd.new W).gr ((Gr.refl _).alloc _), ?_, by omega, by simp, by simp, by simp, hlo, hlt, by omega⟩
  have := Bd.new (W.alloc (.cells #[.pointer none, .slice none 0 0] 135))
  rwa [alloc_size] at this
theorem str_app (a b : List UInt8) : (⟨a.toArray⟩ : ByteArray) ++ ⟨b.toArray⟩ = ⟨(a ++ b).toArray⟩ := by
  apply ByteArray.ext; simp
end Go.Proofs.Ytmpmfgkabjedpaa
namespace Go.Proofs.Ytmpmfgkabjedpaa
open Go.RowKit
set_option linter.unusedVariables false
set_option linter.unusedSimpArgs false
set_option maxRecDepth 100000
set_option maxHeartbeats 4000000
theorem B_bytes (q : ByteArray) : B q.data.toList = q := by cases q; simp [B]
theorem rf_body (leaf : Bool) (A : Option Addr) (cap : Nat) (xs : List Ce) (hcap : xs.length ≤ cap) (hcm : cap ≤ maxLen) (hl : xs.length ≤ 4000) (hx : ∀ x ∈ xs, ceOk x) (w : World) (hs : SliceAt w A 4 ceCell xs) :
    Calls Try.prog 54 #[.slice A xs.length cap, .bool leaf] w fun r w' => r = .returned (.tuple #[.string (slBody (rcErr leaf xs) (xs.map (rcB leaf))).1, .int .i64 (slBody (rcErr leaf xs) (xs.map (rcB leaf))).2]) ∧ Gr w w' := by
  have HX := Lib.hid (And.intro hs (And.intro hx hcm))
  have cR := fun w1 (h1 : Gr w w1) => Lib.hid (rf_right leaf A cap xs hcap hcm hl hx w1 (hs.gr h1))
  have cS := fun w1 (h1 : Gr w w1) => Lib.hid (rf_sum leaf A cap xs hcap hcm hl hx w1 (hs.gr h1))
  clear hs hx hcm
  have hsum : rcSum leaf xs = slLen (xs.map (rcB leaf)) := by unfold rcSum slLen; rw [List.map_map]; rfl
  generalize hbd : slBody (rcErr leaf xs) (xs.map (rcB leaf)) = bd at *
  generalize rcErr leaf xs = er at *
  rw [hsum] at cS
  clear hsum
  have HBD := Lib.hid hbd
  clear hbd
  have HW : Hid (Gr w w) := Gr.refl w
  go_enter Try.func54, Try.ntmps54
  by_cases he : er = 0
  case neg =>
    have hne : (er != 0) = true := by simpa using he
    have hb1 : bd = (.empty, er) := by rw [← HBD.out]; unfold slBody; rw [if_pos he]
    subst hb1
    go_wp2_with (first
      | (go_at_call 94; refine (cR _ HW.out).out.mono ?_; clear cR; rintro r v2 ⟨rfl, hg⟩; have v2g : Hid (Gr w v2) := HW.out.trans hg; clear hg))
    go_ret2
    exact ⟨rfl, v2g.out⟩
  subst he
  by_cases hf : 4072 < slLen (xs.map (rcB leaf))
  · have hf2 : (4072 : Int) < ((slLen (xs.map (rcB leaf)) : Nat) : Int) := by omega
    have hb1 : bd = (.empty, 14) := by rw [← HBD.out]; unfold slBody; rw [if_neg (by simp), if_pos hf]
    subst hb1
    go_wp2_with (first
      | (go_at_call 94; refine (cR _ HW.out).out.mono ?_; clear cR; rintro r v2 ⟨rfl, hg⟩; have v2g : Hid (Gr w v2) := HW.out.trans hg; clear hg)
      | (go_at_call 44; refine (cS _ v2g.out).out.mono ?_; clear cS; rintro r v3 ⟨rfl, hg⟩; have v3g : Hid (Gr w v3) := v2g.out.trans hg; clear hg))
    go_ret2
    exact ⟨rfl, v3g.out⟩
  · have hf2 : ¬ (4072 : Int) < ((slLen (xs.map (rcB leaf)) : Nat) : Int) := by omega
    have hb1 : bd = (B (slAt xs.length (xs.map (rcB leaf)) 0 ++ slCells (xs.map (rcB leaf))), 0) := by rw [← HBD.out]; unfold slBody; rw [if_neg (by simp), if_neg hf, List.length_map]; rfl
    obtain ⟨bd1, bd2⟩ := bd
    obtain ⟨hb2, rfl⟩ : bd1 = _ ∧ bd2 = 0 := by injection hb1 with h1 h2; exact ⟨h1, h2⟩
    have HBO := Lib.hid hb2
    clear HBD hb1 hb2
    have hcl : (slCells (xs.map (rcB leaf))).length ≤ 4072 := by have := slCells_len (xs.map (rcB leaf)); omega
    clear hf
    go_wp2_with (first
      | (go_at_call 94; refine (cR _ HW.out).out.mono ?_; clear cR; rintro r v2 ⟨rfl, hg⟩; have v2g : Hid (Gr w v2) := HW.out.trans hg; clear hg)
      | (go_at_call 44; refine (cS _ v2g.out).out.mono ?_; clear cS; rintro r v3 ⟨rfl, hg⟩; have v3g : Hid (Gr w v3) := v2g.out.trans hg; clear hg))
    have HV : Hid (Gr w v3) := v3g.out
    clear HW v2g v3g hf2
    generalize v3 = W at *
    go_loopw [7, 8, 23] (fun va vb i wr => ∃ k : Nat, k ≤ xs.length ∧ i = .int .i64 (k : Nat) ∧ va = .string (B (slAt xs.length ((xs.take k).map (rcB leaf)) 0)) ∧ vb = .string (B (slCells ((xs.take k).map (rcB leaf)))) ∧ Hid (Gr w wr)) (fun _ _ i _ => xs.length - (intOf i).toNat)
    case atStart => exact ⟨0, by omega, rfl, rfl, rfl, HV.out⟩
    case round =>
      obtain ⟨k, hk, rfl, rfl, rfl, HR⟩ := hrel
      clear HV
      by_cases hlt : k < xs.length
      · rcases HX.out.1 with h0 | ⟨a, off, rfl, hcell⟩
        · subst h0; simp at hlt
        · have hget := List.getElem?_eq_getElem hlt
          have hxo := HX.out.2.1 xs[k] (List.getElem_mem hlt)
          have HS1 : Hid (slCells ((xs.take (k + 1)).map (rcB leaf)) = slCells ((xs.take k).map (rcB leaf)) ++ (rcB leaf xs[k]).data.toList) := by
            unfold Hid; rw [List.take_succ_eq_append_getElem hlt, List.map_append]; exact slCells_snoc _ _
          have HS2 : Hid (slAt xs.length ((xs.take (k + 1)).map (rcB leaf)) 0 = slAt xs.length ((xs.take k).map (rcB leaf)) 0 ++ Oct.be (2 * xs.length + (slCells ((xs.take k).map (rcB leaf))).length) 2) := by
            unfold Hid; rw [List.take_succ_eq_append_getElem hlt, List.map_append]; simpa using slAt_snoc xs.length (rcB leaf xs[k]) ((xs.take k).map (rcB leaf)) 0
          have hlc : (slCells ((xs.take k).map (rcB leaf))).length ≤ 4072 := by rw [List.map_take]; exact Nat.le_trans (slCells_take _ k) hcl
          have hla : (slAt xs.length ((xs.take k).map (rcB leaf)) 0).length ≤ 8000 := by rw [slAt_length, List.length_map, List.length_take]; omega
          generalize slCells ((xs.take k).map (rcB leaf)) = lc at *
          generalize slAt xs.length ((xs.take k).map (rcB leaf)) 0 = la at *
          have zla : (B la).size = la.length := B_size _
          have zlc : (B lc).size = lc.length := B_size _
          generalize xs[k] = x at *
          obtain ⟨e0, e1, e2, e3⟩ := x
          have a0 := HR.out.cells (hcell k _ hget 0 _ rfl)
          have a1 := HR.out.cells (hcell k _ hget 1 _ rfl)
          have a2 := HR.out.cells (hcell k _ hget 2 _ rfl)
          have a3 := HR.out.cells (hcell k _ hget 3 _ rfl)
          simp only [Nat.add_zero] at a0
          have HC := Lib.hid (And.intro hcell hget)
          clear hcell hget
          have hz := rcB_size leaf (e0, e1, e2, e3) hxo
          have cP := fun w1 => Lib.hid (rf_cell e0 e1 e2 e3 hxo.1 hxo.2.1 hxo.2.2.1 hxo.2.2.2 leaf w1)
          clear hxo
          have HQ : Hid (B lc ++ rcB leaf (e0, e1, e2, e3) = B (lc ++ (rcB leaf (e0, e1, e2, e3)).data.toList)) := by unfold Hid; rw [← B_app, B_bytes]
          have HQ2 : Hid (B la ++ B (Oct.be (2 * xs.length + lc.length) 2) = B (la ++ Oct.be (2 * xs.length + lc.length) 2)) := B_app _ _
          generalize rcB leaf (e0, e1, e2, e3) = q at *
          have cT := fun w1 => Lib.hid (ref_big (2 * xs.length + lc.length) (by unfold U64; omega) 2 (by omega) w1)
          have hz2 := B_be_size (2 * xs.length + lc.length) 2
          have hw1 : IntKind.u64.wrap ((2 * (xs.length : Int) + (lc.length : Int))) = ((2 * xs.length + lc.length : Nat) : Int) := by rw [← wrap_u64_of (2 * xs.length + lc.length) (by unfold U64; omega)]; congr 1
          have hw2 : IntKind.i64.wrap (2 * (xs.length : Int)) = 2 * (xs.length : Int) := by rw [IntKind.wrap_i64]; omega
          have hw3 : IntKind.i64.wrap (2 * (xs.length : Int) + (lc.length : Int)) = 2 * (xs.length : Int) + (lc.length : Int) := by rw [IntKind.wrap_i64]; omega
          generalize B (Oct.be (2 * xs.length + lc.length) 2) = ob at *
          generalize hqa : B la = qa at *
          generalize hqc : B lc = qc at *
          clear hqa hqc
          have hno1 : ¬ (9223372036854775807 < qa.size + ob.size) := by omega
          have hno2 : ¬ (9223372036854775807 < qc.size + q.size) := by omega
          clear hz2
          go_wp2_with (first
            | (go_at_call 95; refine (cT _).out.mono ?_; clear cT; rintro r u1 ⟨rfl, hg⟩; have HG1 : Hid (Gr w u1) := (HR.out.alloc _).trans hg; have HX1 := Lib.hid ((hg.block (lt_of_row (heap_alloc_last wr (.cells #[.string e0, .string e1, .int .u32 (e2 : Nat), .int .u32 (e3 : Nat)] 59)))).trans (heap_alloc_last wr (.cells #[.string e0, .string e1, .int .u32 (e2 : Nat), .int .u32 (e3 : Nat)] 59))); have y0 := row_cell HX1.out 0 _ rfl; have y1 := row_cell HX1.out 1 _ rfl; have y2 := row_cell HX1.out 2 _ rfl; have y3 := row_cell HX1.out 3 _ rfl; clear hg)
            | (go_at_call 80; refine (cP _).out.mono ?_; clear cP; rintro r u2 ⟨rfl, hg⟩; have HT : Hid (Gr w u2) := HG1.out.trans hg; clear hg))
          have HT2 := Lib.hid HT.out
          clear HR HG1 HX1
          go_roundw
          case rel => exact ⟨k + 1, by omega, by go_num, by rw [HS2.out, HQ2.out], by rw [HS1.out, HQ.out], HT2⟩
          case measure => simp [intOf]; omega
      · obtain rfl : k = xs.length := by omega
        rw [List.take_length] at *
        have hla : (slAt xs.length (xs.map (rcB leaf)) 0).length ≤ 8000 := by rw [slAt_length, List.length_map]; omega
        generalize slCells (xs.map (rcB leaf)) = lc at *
        generalize slAt xs.length (xs.map (rcB leaf)) 0 = la at *
        have HJ : Hid (B la ++ B lc = B (la ++ lc)) := B_app la lc
        have hz1 : (B la).size = la.length := B_size _
        have hz2 : (B lc).size = lc.length := B_size _
        generalize hqa : B la = qa at *
        generalize hqc : B lc = qc at *
        generalize B (la ++ lc) = qq at *
        clear hqa hqc
        have hno : ¬ (9223372036854775807 < qa.size + qc.size) := by omega
        go_wp2
        go_ret2
        exact ⟨(by rw [HJ.out, ← HBO.out]; rfl), HR.out⟩
end Go.Proofs.Ytmpmfgkabjedpaa
