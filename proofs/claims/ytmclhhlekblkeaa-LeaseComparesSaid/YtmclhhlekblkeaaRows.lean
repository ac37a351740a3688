/-
  No cell of these rows narrows 'for every input' (looked for: loops, veiled, ifaces, maps, wideKeys, modest, calm, conditions, laid).
  DERIVED. THE GIVEN ROWS OF THIS SEAT. 3 by the template 'for every input the law returns true; each argument reads behind the call as it read before'; 0 by the template 'total and deterministic' (their statements: YtmclhhlekblkeaaTotals.lean).
  GIVEN WITH THE SEED: the statements are not yours to turn. If you find one false, say at which input.
  Laid BY PROGRAM, IN A SANDBOX (cutbox-rows.mjs): the forced cells as the released guide's own fill.sh prints them over the translation 894aa612be9fa0eb… (all of the seat's roots in one cut). By AI agents, Wed Nov 11 2026. No macro, syntax, notation, axiom, sorry.
-/
import Derived.Test.YtmclhhlekblkeaaChecked
import GoSem.Claim
import GoSem.ClaimJoined
import GoSem.ClaimMapViews
import Derived.JoinedTies
import Derived.KernelRfl
namespace Go.Proofs.Ytmclhhlekblkeaa
/- THE CELL 'sum', in the pinned program and in every row, IS THE sha256 OF THE DUMP (.gsa) THAT YtmclhhlekblkeaaProg.lean LOADS. Nothing in Lean hashes anything: it is a label: what it is worth is what the hold of that sum in a sandbox is worth. -/
noncomputable def Try.pinned : Pinned := { name := "ytmclhhlekblkeaa", sum := "894aa612be9fa0eb3336f572678fe7f883216b32cdcecdd35bcd04305df8bce0", checked := Try.checked }
namespace Rows
def none {H : Type} : Left H := { results := [], args := [] }

/-- 'taprootlaw23.LeaseCompares': WHATEVER THE INPUT: true; the input reads as it did. -/
def leaseComparesSpec : ChangeSpec := { name := "leaseCompares", fn := fun _ => fun
  | [d1, d2] => { results := [.lit (.bool true)], args := [d1, d2] }
  | _ => none }
def leaseComparesRow : OpenClaim := { program := "ytmclhhlekblkeaa", sum := "894aa612be9fa0eb3336f572678fe7f883216b32cdcecdd35bcd04305df8bce0", func := "taproot/taprootlaw23.LeaseCompares", spec := "leaseCompares", inPlace := ["slices.overlaps[taproot/lease.entry[taproot/lease.Key]]"], unfollowed := true, recurses := true, apart := false }
def LeaseComparesSaid : Prop := leaseComparesRow.holds Try.pinned (OpenSpec.ofChange leaseComparesSpec)

/-- ITS FALSE NEIGHBOUR: 'it returns false'. Refute it at one input. -/
def leaseComparesWrong : ChangeSpec := { name := "leaseCompares", fn := fun _ => fun
  | [d1, d2] => { results := [.lit (.bool false)], args := [d1, d2] }
  | _ => none }
def LeaseComparesWrongFalsely : Prop := leaseComparesRow.holds Try.pinned (OpenSpec.ofChange leaseComparesWrong)

/-- 'taprootlaw23.LeaseSorts': WHATEVER THE INPUT: true; the input reads as it did. -/
def leaseSortsSpec : ChangeSpec := { name := "leaseSorts", fn := fun _ => fun
  | [d1, d2, d3, d4] => { results := [.lit (.bool true)], args := [d1, d2, d3, d4] }
  | _ => none }
def leaseSortsRow : OpenClaim := { program := "ytmclhhlekblkeaa", sum := "894aa612be9fa0eb3336f572678fe7f883216b32cdcecdd35bcd04305df8bce0", func := "taproot/taprootlaw23.LeaseSorts", spec := "leaseSorts", inPlace := ["slices.overlaps[taproot/lease.entry[taproot/lease.Key]]", "internal/bytealg.abigen_runtime_cmpstring", "slices.overlaps[taproot/lease.entry[string]]"], unfollowed := true, recurses := true, apart := false }
def LeaseSortsSaid : Prop := leaseSortsRow.holds Try.pinned (OpenSpec.ofChange leaseSortsSpec)

/-- ITS FALSE NEIGHBOUR: 'it returns false'. Refute it at one input. -/
def leaseSortsWrong : ChangeSpec := { name := "leaseSorts", fn := fun _ => fun
  | [d1, d2, d3, d4] => { results := [.lit (.bool false)], args := [d1, d2, d3, d4] }
  | _ => none }
def LeaseSortsWrongFalsely : Prop := leaseSortsRow.holds Try.pinned (OpenSpec.ofChange leaseSortsWrong)

/-- 'taprootlaw23.LeasePlays': WHATEVER THE INPUT: true; the input reads as it did. -/
def leasePlaysSpec : ChangeSpec := { name := "leasePlays", fn := fun _ => fun
  | [d] => { results := [.lit (.bool true)], args := [d] }
  | _ => none }
def leasePlaysRow : OpenClaim := { program := "ytmclhhlekblkeaa", sum := "894aa612be9fa0eb3336f572678fe7f883216b32cdcecdd35bcd04305df8bce0", func := "taproot/taprootlaw23.LeasePlays", spec := "leasePlays", inPlace := ["slices.overlaps[taproot/lease.entry[taproot/lease.Key]]"], unfollowed := true, recurses := true, apart := false }
def LeasePlaysSaid : Prop := leasePlaysRow.holds Try.pinned (OpenSpec.ofChange leasePlaysSpec)

/-- ITS FALSE NEIGHBOUR: 'it returns false'. Refute it at one input. -/
def leasePlaysWrong : ChangeSpec := { name := "leasePlays", fn := fun _ => fun
  | [d] => { results := [.lit (.bool false)], args := [d] }
  | _ => none }
def LeasePlaysWrongFalsely : Prop := leasePlaysRow.holds Try.pinned (OpenSpec.ofChange leasePlaysWrong)

/- THE SECOND FORM. 'bulk': how many values and letters a reading holds, each counted each time it is reached (what is shared counts as often as it is met; a slice's spare places count too). A statement '..UptoSaid' is the law's where the arguments, and the package variables that the reading takes, are together of bulk at most 1048576: NARROWER than '..Said'. Prove '..Said' where nothing that the law and all that it calls make is longer than what came in: it says more and counts as full. Else prove '..UptoSaid'. A law counts once. -/
mutual
def uptoBulk {H : Type} : DataW H → Nat
  | .lit (.string bytes) => bytes.length + 1
  | .lit _ => 1
  | .nil => 1
  | .ptr d => uptoBulk d + 1
  | .slice elems spare => uptoBulkAll elems + uptoBulkAll spare + 1
  | .agg parts => uptoBulkAll parts + 1
  | .iface _ d => uptoBulk d + 1
  | .map entries => uptoBulkEntries entries + 1
  | .held _ => 1
def uptoBulkAll {H : Type} : List (DataW H) → Nat
  | [] => 0
  | d :: r => uptoBulk d + uptoBulkAll r
def uptoBulkEntries {H : Type} : List (Lit × DataW H) → Nat
  | [] => 0
  | x :: r => uptoBulkEntry x + uptoBulkEntries r
def uptoBulkEntry {H : Type} : Lit × DataW H → Nat
  | (.string bytes, d) => bytes.length + uptoBulk d + 1
  | (_, d) => uptoBulk d + 1
 end
def uptoSmall : (H : Type) → List (DataW H) → Bool := fun _ ds => decide (uptoBulkAll ds ≤ 1048576)
def OpenSpec.upto (s : _root_.Go.ChangeSpec) : _root_.Go.OpenSpec := { _root_.Go.OpenSpec.ofChange s with cond := some uptoSmall }

/-- 'taprootlaw23.LeaseCompares', WHERE WHAT IT READS IS OF BULK AT MOST 1048576: true; the input reads as it did. -/
def leaseComparesUptoRow : OpenClaim := { program := "ytmclhhlekblkeaa", sum := "894aa612be9fa0eb3336f572678fe7f883216b32cdcecdd35bcd04305df8bce0", func := "taproot/taprootlaw23.LeaseCompares", spec := "leaseCompares", inPlace := ["slices.overlaps[taproot/lease.entry[taproot/lease.Key]]"], unfollowed := true, recurses := true, apart := false, narrowed := true }
def LeaseComparesUptoSaid : Prop := leaseComparesUptoRow.holds Try.pinned (OpenSpec.upto leaseComparesSpec)

/-- 'taprootlaw23.LeaseSorts', WHERE WHAT IT READS IS OF BULK AT MOST 1048576: true; the input reads as it did. -/
def leaseSortsUptoRow : OpenClaim := { program := "ytmclhhlekblkeaa", sum := "894aa612be9fa0eb3336f572678fe7f883216b32cdcecdd35bcd04305df8bce0", func := "taproot/taprootlaw23.LeaseSorts", spec := "leaseSorts", inPlace := ["slices.overlaps[taproot/lease.entry[taproot/lease.Key]]", "internal/bytealg.abigen_runtime_cmpstring", "slices.overlaps[taproot/lease.entry[string]]"], unfollowed := true, recurses := true, apart := false, narrowed := true }
def LeaseSortsUptoSaid : Prop := leaseSortsUptoRow.holds Try.pinned (OpenSpec.upto leaseSortsSpec)

/-- 'taprootlaw23.LeasePlays', WHERE WHAT IT READS IS OF BULK AT MOST 1048576: true; the input reads as it did. -/
def leasePlaysUptoRow : OpenClaim := { program := "ytmclhhlekblkeaa", sum := "894aa612be9fa0eb3336f572678fe7f883216b32cdcecdd35bcd04305df8bce0", func := "taproot/taprootlaw23.LeasePlays", spec := "leasePlays", inPlace := ["slices.overlaps[taproot/lease.entry[taproot/lease.Key]]"], unfollowed := true, recurses := true, apart := false, narrowed := true }
def LeasePlaysUptoSaid : Prop := leasePlaysUptoRow.holds Try.pinned (OpenSpec.upto leasePlaysSpec)

end Rows
end Go.Proofs.Ytmclhhlekblkeaa
