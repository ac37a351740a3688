/- Layer 19: Messages: one as bytes (printed by recgen.py). -/
import Derived.Test.YtncbbaieoehbjaaOctWr
import Derived.Test.YtncbbaieoehbjaaOctText
import Derived.Test.YtncbbaieoehbjaaOwn
import Derived.Laws.EntriesVeiled
import Derived.Deep.RegionHeld3
namespace Go.Proofs.Ytncbbaieoehbjaa
open Go.RowKit
set_option linter.unusedVariables false
set_option linter.unusedSimpArgs false
set_option maxRecDepth 100000
set_option maxHeartbeats 2000000
def meBytes (tries : Nat) (ttl : Nat) (body : ByteArray) : ByteArray := B (Oct.be tries 4) ++ B (Oct.be ttl 8) ++ Oct.text body
theorem meBytes_size (tries : Nat) (ttl : Nat) (body : ByteArray) : (meBytes tries ttl body).size = 16 + body.size := by
  unfold meBytes
  have a0 := B_be_size tries 4
  have a1 := B_be_size ttl 8
  have a2 := Oct.text_size body
  simp only [ByteArray.size_append]
  omega
theorem me_put (nm : ByteArray) (id : Nat) (tries : Nat) (ttl : Nat) (body : ByteArray) (h0 : tries < 4294967296) (h1 : U64 ttl) (h2 : body.size ≤ 1000000) (w : World) :
    Calls Try.prog 68 #[.agg #[.string nm, .int .u64 (id : Nat), .int .u32 (tries : Nat), .int .u64 (ttl : Nat), .string body]] w fun r w' => r = .returned (.string (meBytes tries ttl body)) ∧ Gr w w' := by
  have z0 := B_be_size tries 4
  have z1 := B_be_size ttl 8
  have z2 := Oct.text_size body
  have HB : Hid (meBytes tries ttl body = B (Oct.be tries 4) ++ B (Oct.be ttl 8) ++ Oct.text body) := rfl
  have c0 := fun w1 => Lib.hid (oct_four tries h0 w1)
  have c1 := fun w1 => Lib.hid (oct_eight ttl h1 w1)
  have c2 := fun w1 => Lib.hid (oct_text body (by omega) w1)
  generalize B (Oct.be tries 4) = g0 at *
  generalize B (Oct.be ttl 8) = g1 at *
  generalize Oct.text body = g2 at *
  generalize meBytes tries ttl body = q at *
  have y2 : ¬ (9223372036854775807 < g0.size + g1.size) := by omega
  rw [z0, z1] at y2
  have y3 : ¬ (9223372036854775807 < g0.size + g1.size + g2.size) := by omega
  rw [z0, z1, z2] at y3
  go_enter Try.func68, Try.ntmps68
  go_wp2
  have hw0 := heap_alloc_last w (.cells #[.string nm, .int .u64 (id : Nat), .int .u32 (tries : Nat), .int .u64 (ttl : Nat), .string body] 27)
  have HW : Hid (Gr w (w.alloc (.cells #[.string nm, .int .u64 (id : Nat), .int .u32 (tries : Nat), .int .u64 (ttl : Nat), .string body] 27))) := (Gr.refl w).alloc _
  generalize w.alloc (.cells #[.string nm, .int .u64 (id : Nat), .int .u32 (tries : Nat), .int .u64 (ttl : Nat), .string body] 27) = W at *
  generalize w.heap.size = g at *
  have q2 : W.cell? ⟨g, 2, none⟩ = some (.int .u32 (tries : Nat)) := by rw [cell_of_row _ _ 2 _ _ _ hw0]; rfl
  have q3 : W.cell? ⟨g, 3, none⟩ = some (.int .u64 (ttl : Nat)) := by rw [cell_of_row _ _ 3 _ _ _ hw0]; rfl
  have q4 : W.cell? ⟨g, 4, none⟩ = some (.string body) := by rw [cell_of_row _ _ 4 _ _ _ hw0]; rfl
  clear hw0
  go_region_held3 (fun w' => w'.cell? ⟨g, 2, none⟩ = some (.int .u32 (tries : Nat)) ∧ w'.cell? ⟨g, 3, none⟩ = some (.int .u64 (ttl : Nat)) ∧ w'.cell? ⟨g, 4, none⟩ = some (.string body)) (first | exact ⟨q2, q3, q4⟩ | exact HQ.out | assumption)
    (first
      | (go_at_call 59; (with_reducible show Calls _ _ #[.int .u32 (tries : Nat)] _ _); refine (c0 _).out.mono ?_; rintro r v0 ⟨rfl, hg⟩; have HV0 : Hid (Gr W v0) := (Gr.refl W).drew.trans hg; have HQ := Lib.hid (And.intro (HV0.out.cells q2) (And.intro (HV0.out.cells q3) (HV0.out.cells q4))); clear hg)
      | (go_at_call 60; (with_reducible show Calls _ _ #[.int .u64 (ttl : Nat)] _ _); refine (c1 _).out.mono ?_; rintro r v1 ⟨rfl, hg⟩; have HV1 : Hid (Gr W v1) := HV0.out.trans hg; have HQ := Lib.hid (And.intro (HV1.out.cells q2) (And.intro (HV1.out.cells q3) (HV1.out.cells q4))); clear hg)
      | (go_at_call 61; (with_reducible show Calls _ _ #[.string body] _ _); refine (c2 _).out.mono ?_; rintro r v2 ⟨rfl, hg⟩; have HV2 : Hid (Gr W v2) := HV1.out.trans hg; have HQ := Lib.hid (And.intro (HV2.out.cells q2) (And.intro (HV2.out.cells q3) (HV2.out.cells q4))); clear hg))
  go_wp2
  go_ret
  exact ⟨ret_str HB.out.symm, HW.out.trans HV2.out⟩
theorem me_ref (nm : ByteArray) (id : Nat) (tries : Nat) (ttl : Nat) (body : ByteArray) (h0 : tries < 4294967296) (h1 : U64 ttl) (h2 : body.size ≤ 1000000) (w : World) :
    Calls Try.prog 15 #[.agg #[.string nm, .int .u64 (id : Nat), .int .u32 (tries : Nat), .int .u64 (ttl : Nat), .string body]] w fun r w' => r = .returned (.string (B (Oct.be 1 1) ++ meBytes tries ttl body)) ∧ Gr w w' := by
  have z0 := B_be_size tries 4
  have z1 := B_be_size ttl 8
  have z2 := Oct.text_size body
  have zz := B_be_size 1 1
  have HB : Hid (B (Oct.be 1 1) ++ meBytes tries ttl body = B (Oct.be 1 1) ++ B (Oct.be tries 4) ++ B (Oct.be ttl 8) ++ Oct.text body) := by unfold Hid meBytes; simp only [ByteArray.append_assoc]
  have cc := fun w1 => Lib.hid (ref_big 1 (by unfold U64; omega) 1 (by omega) w1)
  have c0 := fun w1 => Lib.hid (ref_big tries (by unfold U64; omega) 4 (by omega) w1)
  have k0 : IntKind.u64.wrap (tries : Int) = (tries : Int) := Oct.u32' tries h0
  have c1 := fun w1 => Lib.hid (ref_big ttl h1 8 (by omega) w1)
  have c2 := fun w1 => Lib.hid (ref_text body (by omega) w1)
  generalize B (Oct.be tries 4) = g0 at *
  generalize B (Oct.be ttl 8) = g1 at *
  generalize Oct.text body = g2 at *
  generalize B (Oct.be 1 1) = gg at *
  generalize meBytes tries ttl body = q at *
  have y2 : ¬ (9223372036854775807 < gg.size + g0.size) := by omega
  rw [zz, z0] at y2
  have y3 : ¬ (9223372036854775807 < gg.size + g0.size + g1.size) := by omega
  rw [zz, z0, z1] at y3
  have y4 : ¬ (9223372036854775807 < gg.size + g0.size + g1.size + g2.size) := by omega
  rw [zz, z0, z1, z2] at y4
  go_enter Try.func15, Try.ntmps15
  go_wp2
  have hw0 := heap_alloc_last w (.cells #[.string nm, .int .u64 (id : Nat), .int .u32 (tries : Nat), .int .u64 (ttl : Nat), .string body] 27)
  have HW : Hid (Gr w (w.alloc (.cells #[.string nm, .int .u64 (id : Nat), .int .u32 (tries : Nat), .int .u64 (ttl : Nat), .string body] 27))) := (Gr.refl w).alloc _
  generalize w.alloc (.cells #[.string nm, .int .u64 (id : Nat), .int .u32 (tries : Nat), .int .u64 (ttl : Nat), .string body] 27) = W at *
  generalize w.heap.size = g at *
  have q2 : W.cell? ⟨g, 2, none⟩ = some (.int .u32 (tries : Nat)) := by rw [cell_of_row _ _ 2 _ _ _ hw0]; rfl
  have q3 : W.cell? ⟨g, 3, none⟩ = some (.int .u64 (ttl : Nat)) := by rw [cell_of_row _ _ 3 _ _ _ hw0]; rfl
  have q4 : W.cell? ⟨g, 4, none⟩ = some (.string body) := by rw [cell_of_row _ _ 4 _ _ _ hw0]; rfl
  clear hw0
  go_region_held3 (fun w' => w'.cell? ⟨g, 2, none⟩ = some (.int .u32 (tries : Nat)) ∧ w'.cell? ⟨g, 3, none⟩ = some (.int .u64 (ttl : Nat)) ∧ w'.cell? ⟨g, 4, none⟩ = some (.string body)) (first | exact ⟨q2, q3, q4⟩ | exact HQ.out | assumption)
    (first
      | (go_at_call 18; (with_reducible show Calls _ _ #[.int .u64 1, _] _ _); refine (cc _).out.mono ?_; rintro r v0 ⟨rfl, hg⟩; have HV0 : Hid (Gr W v0) := (Gr.refl W).drew.trans hg; have HQ := Lib.hid (And.intro (HV0.out.cells q2) (And.intro (HV0.out.cells q3) (HV0.out.cells q4))); clear hg)
      | (go_at_call 18; (with_reducible show Calls _ _ #[.int .u64 (tries : Nat), _] _ _); refine (c0 _).out.mono ?_; rintro r v1 ⟨rfl, hg⟩; have HV1 : Hid (Gr W v1) := HV0.out.trans hg; have HQ := Lib.hid (And.intro (HV1.out.cells q2) (And.intro (HV1.out.cells q3) (HV1.out.cells q4))); clear hg)
      | (go_at_call 18; (with_reducible show Calls _ _ #[.int .u64 (ttl : Nat), _] _ _); refine (c1 _).out.mono ?_; rintro r v2 ⟨rfl, hg⟩; have HV2 : Hid (Gr W v2) := HV1.out.trans hg; have HQ := Lib.hid (And.intro (HV2.out.cells q2) (And.intro (HV2.out.cells q3) (HV2.out.cells q4))); clear hg)
      | (go_at_call 66; (with_reducible show Calls _ _ #[_] _ _); refine (c2 _).out.mono ?_; rintro r v3 ⟨rfl, hg⟩; have HV3 : Hid (Gr W v3) := HV2.out.trans hg; have HQ := Lib.hid (And.intro (HV3.out.cells q2) (And.intro (HV3.out.cells q3) (HV3.out.cells q4))); clear hg))
  go_wp2
  go_ret
  exact ⟨ret_str HB.out.symm, HW.out.trans HV3.out⟩
theorem me_vput (nm : ByteArray) (id : Nat) (tries : Nat) (ttl : Nat) (body : ByteArray) (h0 : tries < 4294967296) (h1 : U64 ttl) (h2 : body.size ≤ 1000000) (p : Nat) (w : World) (hp : w.cell? ⟨p, 0, none⟩ = some (.func (.func 68) #[] #[])) :
    Calls Try.prog 114 #[.agg #[.string nm, .int .u64 (id : Nat), .int .u32 (tries : Nat), .int .u64 (ttl : Nat), .string body], .pointer (some ⟨p, 0, none⟩)] w fun r w' => r = .returned (.string (B (Oct.be 1 1) ++ meBytes tries ttl body)) ∧ Gr w w' := by
  have z0 := B_be_size 1 1
  have z1 := meBytes_size tries ttl body
  have c1 := fun w1 => Lib.hid (oct_one 1 (by omega) w1)
  have c2 := fun w1 => Lib.hid (me_put nm id tries ttl body h0 h1 h2 w1)
  generalize B (Oct.be 1 1) = g1 at *
  generalize meBytes tries ttl body = g2 at *
  have y1 : ¬ (9223372036854775807 < g1.size + g2.size) := by omega
  rw [z0, z1] at y1
  go_enter Try.func114, Try.ntmps114
  go_wp2
  have hw0 := heap_alloc_last w (.cells #[.string nm, .int .u64 (id : Nat), .int .u32 (tries : Nat), .int .u64 (ttl : Nat), .string body] 27)
  have HW : Hid (Gr w (w.alloc (.cells #[.string nm, .int .u64 (id : Nat), .int .u32 (tries : Nat), .int .u64 (ttl : Nat), .string body] 27))) := (Gr.refl w).alloc _
  have qp := HW.out.cells hp
  clear hp
  generalize w.alloc (.cells #[.string nm, .int .u64 (id : Nat), .int .u32 (tries : Nat), .int .u64 (ttl : Nat), .string body] 27) = W at *
  generalize w.heap.size = g at *
  have q0 : W.cell? ⟨g, 0, none⟩ = some (.string nm) := by rw [cell_of_row _ _ 0 _ _ _ hw0]; rfl
  have q1 : W.cell? ⟨g, 1, none⟩ = some (.int .u64 (id : Nat)) := by rw [cell_of_row _ _ 1 _ _ _ hw0]; rfl
  have q2 : W.cell? ⟨g, 2, none⟩ = some (.int .u32 (tries : Nat)) := by rw [cell_of_row _ _ 2 _ _ _ hw0]; rfl
  have q3 : W.cell? ⟨g, 3, none⟩ = some (.int .u64 (ttl : Nat)) := by rw [cell_of_row _ _ 3 _ _ _ hw0]; rfl
  have q4 : W.cell? ⟨g, 4, none⟩ = some (.string body) := by rw [cell_of_row _ _ 4 _ _ _ hw0]; rfl
  clear hw0
  go_region_held3 (fun w' => w'.cell? ⟨g, 0, none⟩ = some (.string nm) ∧ w'.cell? ⟨g, 1, none⟩ = some (.int .u64 (id : Nat)) ∧ w'.cell? ⟨g, 2, none⟩ = some (.int .u32 (tries : Nat)) ∧ w'.cell? ⟨g, 3, none⟩ = some (.int .u64 (ttl : Nat)) ∧ w'.cell? ⟨g, 4, none⟩ = some (.string body) ∧ w'.cell? ⟨p, 0, none⟩ = some (.func (.func 68) #[] #[])) (first | exact ⟨q0, q1, q2, q3, q4, qp⟩ | exact HQ.out | assumption)
    (first
      | (go_at_call 74; refine (c1 _).out.mono ?_; rintro r v0 ⟨rfl, hg⟩; have HV0 : Hid (Gr W v0) := (Gr.refl W).drew.trans hg; have HQ := Lib.hid (And.intro (HV0.out.cells q0) (And.intro (HV0.out.cells q1) (And.intro (HV0.out.cells q2) (And.intro (HV0.out.cells q3) (And.intro (HV0.out.cells q4) (HV0.out.cells qp)))))); clear hg)
      | (go_at_call 68; refine (c2 _).out.mono ?_; rintro r v1 ⟨rfl, hg⟩; have HV1 : Hid (Gr W v1) := HV0.out.trans hg; have HQ := Lib.hid (And.intro (HV1.out.cells q0) (And.intro (HV1.out.cells q1) (And.intro (HV1.out.cells q2) (And.intro (HV1.out.cells q3) (And.intro (HV1.out.cells q4) (HV1.out.cells qp)))))); clear hg))
  go_wp2
  go_ret
  exact ⟨rfl, HW.out.trans HV1.out⟩
end Go.Proofs.Ytncbbaieoehbjaa
