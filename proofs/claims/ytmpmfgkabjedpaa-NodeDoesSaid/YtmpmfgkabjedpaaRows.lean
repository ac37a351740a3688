/-
  No cell of these rows narrows 'for every input' (looked for: loops, veiled, ifaces, maps, wideKeys, modest, calm, conditions, laid).
  DERIVED. THE GIVEN ROWS OF THIS SEAT. 4 by the template 'for every input the law returns true; each argument reads behind the call as it read before'; 0 by the template 'total and deterministic' (their statements: YtmpmfgkabjedpaaTotals.lean).
  GIVEN WITH THE SEED: the statements are not yours to turn. If you find one false, say at which input.
  Laid BY PROGRAM, IN A SANDBOX (cutbox-rows.mjs): the forced cells as the released guide's own fill.sh prints them over the translation 751538222e5d2026… (all of the seat's roots in one cut). By AI agents, Wed Nov 11 2026. No macro, syntax, notation, axiom, sorry.
-/
import Derived.Test.YtmpmfgkabjedpaaChecked
import GoSem.Claim
import GoSem.ClaimJoined
import GoSem.ClaimMapViews
import Derived.JoinedTies
import Derived.KernelRfl
namespace Go.Proofs.Ytmpmfgkabjedpaa
/- THE CELL 'sum', in the pinned program and in every row, IS THE sha256 OF THE DUMP (.gsa) THAT YtmpmfgkabjedpaaProg.lean LOADS. Nothing in Lean hashes anything: it is a label: what it is worth is what the hold of that sum in a sandbox is worth. -/
noncomputable def Try.pinned : Pinned := { name := "ytmpmfgkabjedpaa", sum := "751538222e5d202637a2e1c92399b0e5bd08f384aa4df30345f3095ba7abb237", checked := Try.checked }
namespace Rows
def none {H : Type} : Left H := { results := [], args := [] }

/-- 'taprootlaw10.NodeSplits': WHATEVER THE INPUT: true; the input reads as it did. -/
def nodeSplitsSpec : ChangeSpec := { name := "nodeSplits", fn := fun _ => fun
  | [d1, d2, d3, d4] => { results := [.lit (.bool true)], args := [d1, d2, d3, d4] }
  | _ => none }
def nodeSplitsRow : OpenClaim := { program := "ytmpmfgkabjedpaa", sum := "751538222e5d202637a2e1c92399b0e5bd08f384aa4df30345f3095ba7abb237", func := "taproot/taprootlaw10.NodeSplits", spec := "nodeSplits", unfollowed := true, recurses := true, apart := false }
def NodeSplitsSaid : Prop := nodeSplitsRow.holds Try.pinned (OpenSpec.ofChange nodeSplitsSpec)

/-- ITS FALSE NEIGHBOUR: 'it returns false'. Refute it at one input. -/
def nodeSplitsWrong : ChangeSpec := { name := "nodeSplits", fn := fun _ => fun
  | [d1, d2, d3, d4] => { results := [.lit (.bool false)], args := [d1, d2, d3, d4] }
  | _ => none }
def NodeSplitsWrongFalsely : Prop := nodeSplitsRow.holds Try.pinned (OpenSpec.ofChange nodeSplitsWrong)

/-- 'taprootlaw10.NodeFrames': WHATEVER THE INPUT: true; the input reads as it did. -/
def nodeFramesSpec : ChangeSpec := { name := "nodeFrames", fn := fun _ => fun
  | [d1, d2, d3, d4, d5] => { results := [.lit (.bool true)], args := [d1, d2, d3, d4, d5] }
  | _ => none }
def nodeFramesRow : OpenClaim := { program := "ytmpmfgkabjedpaa", sum := "751538222e5d202637a2e1c92399b0e5bd08f384aa4df30345f3095ba7abb237", func := "taproot/taprootlaw10.NodeFrames", spec := "nodeFrames", inPlace := ["internal/abi.NoEscape"], unfollowed := true, recurses := true, apart := false }
def NodeFramesSaid : Prop := nodeFramesRow.holds Try.pinned (OpenSpec.ofChange nodeFramesSpec)

/-- ITS FALSE NEIGHBOUR: 'it returns false'. Refute it at one input. -/
def nodeFramesWrong : ChangeSpec := { name := "nodeFrames", fn := fun _ => fun
  | [d1, d2, d3, d4, d5] => { results := [.lit (.bool false)], args := [d1, d2, d3, d4, d5] }
  | _ => none }
def NodeFramesWrongFalsely : Prop := nodeFramesRow.holds Try.pinned (OpenSpec.ofChange nodeFramesWrong)

/-- 'taprootlaw10.NodeDoes': WHATEVER THE INPUT: true; the input reads as it did. -/
def nodeDoesSpec : ChangeSpec := { name := "nodeDoes", fn := fun _ => fun
  | [d1, d2, d3, d4, d5] => { results := [.lit (.bool true)], args := [d1, d2, d3, d4, d5] }
  | _ => none }
def nodeDoesRow : OpenClaim := { program := "ytmpmfgkabjedpaa", sum := "751538222e5d202637a2e1c92399b0e5bd08f384aa4df30345f3095ba7abb237", func := "taproot/taprootlaw10.NodeDoes", spec := "nodeDoes", inPlace := ["slices.overlaps[taproot/api.Cell]", "slices.overlaps[taproot/slots.Kid]"], unfollowed := true, recurses := true, apart := false }
def NodeDoesSaid : Prop := nodeDoesRow.holds Try.pinned (OpenSpec.ofChange nodeDoesSpec)

/-- ITS FALSE NEIGHBOUR: 'it returns false'. Refute it at one input. -/
def nodeDoesWrong : ChangeSpec := { name := "nodeDoes", fn := fun _ => fun
  | [d1, d2, d3, d4, d5] => { results := [.lit (.bool false)], args := [d1, d2, d3, d4, d5] }
  | _ => none }
def NodeDoesWrongFalsely : Prop := nodeDoesRow.holds Try.pinned (OpenSpec.ofChange nodeDoesWrong)

/-- 'taprootlaw10.NodeBack': WHATEVER THE INPUT: true; the input reads as it did. -/
def nodeBackSpec : ChangeSpec := { name := "nodeBack", fn := fun _ => fun
  | [d1, d2, d3, d4] => { results := [.lit (.bool true)], args := [d1, d2, d3, d4] }
  | _ => none }
def nodeBackRow : OpenClaim := { program := "ytmpmfgkabjedpaa", sum := "751538222e5d202637a2e1c92399b0e5bd08f384aa4df30345f3095ba7abb237", func := "taproot/taprootlaw10.NodeBack", spec := "nodeBack", inPlace := ["internal/abi.NoEscape", "slices.overlaps[taproot/api.Cell]"], unfollowed := true, recurses := true, apart := false }
def NodeBackSaid : Prop := nodeBackRow.holds Try.pinned (OpenSpec.ofChange nodeBackSpec)

/-- ITS FALSE NEIGHBOUR: 'it returns false'. Refute it at one input. -/
def nodeBackWrong : ChangeSpec := { name := "nodeBack", fn := fun _ => fun
  | [d1, d2, d3, d4] => { results := [.lit (.bool false)], args := [d1, d2, d3, d4] }
  | _ => none }
def NodeBackWrongFalsely : Prop := nodeBackRow.holds Try.pinned (OpenSpec.ofChange nodeBackWrong)

/- THE SECOND FORM. 'bulk': how many values and letters a reading holds, each counted each time it is reached (what is shared counts as often as it is met; a slice's spare places count too). A statement '..UptoSaid' is the law's where the arguments, and the package variables that the reading takes, are together of bulk at most 1048576: NARROWER than '..Said'. Prove '..Said' where nothing that the law and all that it calls make is longer than what came in: it says more and counts as full. Else prove '..UptoSaid'. A law counts once. -/
mutual
def uptoBulk {H : Type} : DataW H → Nat
  | .lit (.string bytes) => bytes.length + 1
  | .lit _ => 1
  | .nil => 1
  | .ptr d => uptoBulk d + 1
  | .slice elems spare => uptoBulkAll elems + uptoBulkAll spare + 1
  | .agg parts => uptoBulkAll parts + 1
  | .iface _ d => uptoBulk d + 1
  | .map entries => uptoBulkEntries entries + 1
  | .held _ => 1
def uptoBulkAll {H : Type} : List (DataW H) → Nat
  | [] => 0
  | d :: r => uptoBulk d + uptoBulkAll r
def uptoBulkEntries {H : Type} : List (Lit × DataW H) → Nat
  | [] => 0
  | x :: r => uptoBulkEntry x + uptoBulkEntries r
def uptoBulkEntry {H : Type} : Lit × DataW H → Nat
  | (.string bytes, d) => bytes.length + uptoBulk d + 1
  | (_, d) => uptoBulk d + 1
 end
def uptoSmall : (H : Type) → List (DataW H) → Bool := fun _ ds => decide (uptoBulkAll ds ≤ 1048576)
def OpenSpec.upto (s : _root_.Go.ChangeSpec) : _root_.Go.OpenSpec := { _root_.Go.OpenSpec.ofChange s with cond := some uptoSmall }

/-- 'taprootlaw10.NodeSplits', WHERE WHAT IT READS IS OF BULK AT MOST 1048576: true; the input reads as it did. -/
def nodeSplitsUptoRow : OpenClaim := { program := "ytmpmfgkabjedpaa", sum := "751538222e5d202637a2e1c92399b0e5bd08f384aa4df30345f3095ba7abb237", func := "taproot/taprootlaw10.NodeSplits", spec := "nodeSplits", unfollowed := true, recurses := true, apart := false, narrowed := true }
def NodeSplitsUptoSaid : Prop := nodeSplitsUptoRow.holds Try.pinned (OpenSpec.upto nodeSplitsSpec)

/-- 'taprootlaw10.NodeFrames', WHERE WHAT IT READS IS OF BULK AT MOST 1048576: true; the input reads as it did. -/
def nodeFramesUptoRow : OpenClaim := { program := "ytmpmfgkabjedpaa", sum := "751538222e5d202637a2e1c92399b0e5bd08f384aa4df30345f3095ba7abb237", func := "taproot/taprootlaw10.NodeFrames", spec := "nodeFrames", inPlace := ["internal/abi.NoEscape"], unfollowed := true, recurses := true, apart := false, narrowed := true }
def NodeFramesUptoSaid : Prop := nodeFramesUptoRow.holds Try.pinned (OpenSpec.upto nodeFramesSpec)

/-- 'taprootlaw10.NodeDoes', WHERE WHAT IT READS IS OF BULK AT MOST 1048576: true; the input reads as it did. -/
def nodeDoesUptoRow : OpenClaim := { program := "ytmpmfgkabjedpaa", sum := "751538222e5d202637a2e1c92399b0e5bd08f384aa4df30345f3095ba7abb237", func := "taproot/taprootlaw10.NodeDoes", spec := "nodeDoes", inPlace := ["slices.overlaps[taproot/api.Cell]", "slices.overlaps[taproot/slots.Kid]"], unfollowed := true, recurses := true, apart := false, narrowed := true }
def NodeDoesUptoSaid : Prop := nodeDoesUptoRow.holds Try.pinned (OpenSpec.upto nodeDoesSpec)

/-- 'taprootlaw10.NodeBack', WHERE WHAT IT READS IS OF BULK AT MOST 1048576: true; the input reads as it did. -/
def nodeBackUptoRow : OpenClaim := { program := "ytmpmfgkabjedpaa", sum := "751538222e5d202637a2e1c92399b0e5bd08f384aa4df30345f3095ba7abb237", func := "taproot/taprootlaw10.NodeBack", spec := "nodeBack", inPlace := ["internal/abi.NoEscape", "slices.overlaps[taproot/api.Cell]"], unfollowed := true, recurses := true, apart := false, narrowed := true }
def NodeBackUptoSaid : Prop := nodeBackUptoRow.holds Try.pinned (OpenSpec.upto nodeBackSpec)

end Rows
end Go.Proofs.Ytmpmfgkabjedpaa
