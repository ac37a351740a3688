/-
  NARROWER THAN 'FOR EVERY INPUT', by the rows' own cells (each row's printed sentence says how): SchemaBounds: laid · OrderKeeps: laid · OrderAfter: laid · OrderBack: laid · OrderKeys: laid.
  DERIVED. THE GIVEN ROWS OF THIS SEAT. 5 by the template 'for every input the law returns true; each argument reads behind the call as it read before'; 0 by the template 'total and deterministic' (their statements: YtckklikfikeokaaDoorTotals.lean).
  GIVEN WITH THE SEED: the statements are not yours to turn. If you find one false, say at which input.
  Laid BY PROGRAM, IN A SANDBOX (cutbox-rows.mjs): the forced cells as the released guide's own fill.sh prints them over the translation 4d2bc23312cd7025… (all of the seat's roots in one cut). By AI agents, Wed Nov 11 2026. No macro, syntax, notation, axiom, sorry.
-/
import Derived.Test.YtckklikfikeokaaDoorChecked
import GoSem.PinnedTables
import GoSem.Claim
import GoSem.ClaimJoined
import GoSem.ClaimMapViews
import Derived.JoinedTies
import Derived.KernelRfl
namespace Go.Proofs.YtckklikfikeokaaDoor
/- THE CELL 'sum', in the pinned program and in every row, IS THE sha256 OF THE DUMP (.gsa) THAT YtckklikfikeokaaDoorProg.lean LOADS. Nothing in Lean hashes anything: it is a label: what it is worth is what the hold of that sum in a sandbox is worth. -/
noncomputable def Tryd.pinned : Pinned := { name := "ytckklikfikeokaadoor", sum := "4d2bc23312cd70252d7750f8dbbf5242a56cc3bae6460e246fc6f0f40b59b4e6", checked := Tryd.checked }
namespace Rows
def none {H : Type} : Left H := { results := [], args := [] }

/- WHAT THE LISTED PACKAGE-LEVEL VARIABLES READ AS WHEN THE CALL BEGINS. Each datum BY PROGRAM (the guide's laid-datum.mjs) off the statement by which the dump's own 'gosem.cut.vars' lays the variable. In a bare row this is a premise. The card (YtckklikfikeokaaDoorCards.lean) ties it to the program's text. -/
def laid_unicode_utf8_acceptRanges {H : Type} : DataW H := .agg [.agg [.lit (.int .u8 128), .lit (.int .u8 191)], .agg [.lit (.int .u8 160), .lit (.int .u8 191)], .agg [.lit (.int .u8 128), .lit (.int .u8 159)], .agg [.lit (.int .u8 144), .lit (.int .u8 191)], .agg [.lit (.int .u8 128), .lit (.int .u8 143)], .agg [.lit (.int .u8 0), .lit (.int .u8 0)], .agg [.lit (.int .u8 0), .lit (.int .u8 0)], .agg [.lit (.int .u8 0), .lit (.int .u8 0)], .agg [.lit (.int .u8 0), .lit (.int .u8 0)], .agg [.lit (.int .u8 0), .lit (.int .u8 0)], .agg [.lit (.int .u8 0), .lit (.int .u8 0)], .agg [.lit (.int .u8 0), .lit (.int .u8 0)], .agg [.lit (.int .u8 0), .lit (.int .u8 0)], .agg [.lit (.int .u8 0), .lit (.int .u8 0)], .agg [.lit (.int .u8 0), .lit (.int .u8 0)], .agg [.lit (.int .u8 0), .lit (.int .u8 0)]]
/-- One of Go's own tables, pinned by name: the form's constant. -/
def laid_unicode_utf8_first : DataW Unit := Go.Pinned.utf8First

/-- 'taprootlaw18.SchemaBounds': WHATEVER THE INPUT: true; the input reads as it did. -/
def schemaBoundsSpec : ChangeSpec := { name := "schemaBounds", fn := fun _ => fun
  | [d1, d2, d3] => { results := [.lit (.bool true)], args := [d1, d2, d3] }
  | _ => none }
def schemaBoundsRow : OpenClaim := { program := "ytckklikfikeokaadoor", sum := "4d2bc23312cd70252d7750f8dbbf5242a56cc3bae6460e246fc6f0f40b59b4e6", func := "taproot/taprootlaw18.SchemaBounds", spec := "schemaBounds", inPlace := ["internal/bytealg.CountString", "internal/bytealg.IndexByteString", "internal/bytealg.IndexString", "internal/abi.NoEscape", "internal/bytealg.MakeNoZero"], named := ["internal/bytealg.MaxLen", "unicode/utf8.first", "unicode/utf8.acceptRanges"], apart := false, laid := [("unicode/utf8.acceptRanges", laid_unicode_utf8_acceptRanges), ("unicode/utf8.first", laid_unicode_utf8_first)] }
def SchemaBoundsSaid : Prop := schemaBoundsRow.holds Tryd.pinned (OpenSpec.ofChange schemaBoundsSpec)

/-- ITS FALSE NEIGHBOUR: 'it returns false'. Refute it at one input. -/
def schemaBoundsWrong : ChangeSpec := { name := "schemaBounds", fn := fun _ => fun
  | [d1, d2, d3] => { results := [.lit (.bool false)], args := [d1, d2, d3] }
  | _ => none }
def SchemaBoundsWrongFalsely : Prop := schemaBoundsRow.holds Tryd.pinned (OpenSpec.ofChange schemaBoundsWrong)

/-- 'taprootlaw04.OrderKeeps': WHATEVER THE INPUT: true; the input reads as it did. -/
def orderKeepsSpec : ChangeSpec := { name := "orderKeeps", fn := fun _ => fun
  | [d1, d2] => { results := [.lit (.bool true)], args := [d1, d2] }
  | _ => none }
def orderKeepsRow : OpenClaim := { program := "ytckklikfikeokaadoor", sum := "4d2bc23312cd70252d7750f8dbbf5242a56cc3bae6460e246fc6f0f40b59b4e6", func := "taproot/taprootlaw04.OrderKeeps", spec := "orderKeeps", inPlace := ["internal/bytealg.CountString", "internal/bytealg.IndexByteString", "internal/bytealg.IndexString", "internal/abi.NoEscape", "internal/bytealg.MakeNoZero"], unfollowed := true, recurses := true, named := ["internal/bytealg.MaxLen", "unicode/utf8.first", "unicode/utf8.acceptRanges"], apart := false, laid := [("unicode/utf8.acceptRanges", laid_unicode_utf8_acceptRanges), ("unicode/utf8.first", laid_unicode_utf8_first)] }
def OrderKeepsSaid : Prop := orderKeepsRow.holds Tryd.pinned (OpenSpec.ofChange orderKeepsSpec)

/-- ITS FALSE NEIGHBOUR: 'it returns false'. Refute it at one input. -/
def orderKeepsWrong : ChangeSpec := { name := "orderKeeps", fn := fun _ => fun
  | [d1, d2] => { results := [.lit (.bool false)], args := [d1, d2] }
  | _ => none }
def OrderKeepsWrongFalsely : Prop := orderKeepsRow.holds Tryd.pinned (OpenSpec.ofChange orderKeepsWrong)

/-- 'taprootlaw04.OrderAfter': WHATEVER THE INPUT: true; the input reads as it did. -/
def orderAfterSpec : ChangeSpec := { name := "orderAfter", fn := fun _ => fun
  | [d1, d2, d3] => { results := [.lit (.bool true)], args := [d1, d2, d3] }
  | _ => none }
def orderAfterRow : OpenClaim := { program := "ytckklikfikeokaadoor", sum := "4d2bc23312cd70252d7750f8dbbf5242a56cc3bae6460e246fc6f0f40b59b4e6", func := "taproot/taprootlaw04.OrderAfter", spec := "orderAfter", inPlace := ["internal/bytealg.CountString", "internal/bytealg.IndexByteString", "internal/bytealg.IndexString", "internal/abi.NoEscape", "internal/bytealg.MakeNoZero"], unfollowed := true, recurses := true, named := ["internal/bytealg.MaxLen", "unicode/utf8.first", "unicode/utf8.acceptRanges"], apart := false, laid := [("unicode/utf8.acceptRanges", laid_unicode_utf8_acceptRanges), ("unicode/utf8.first", laid_unicode_utf8_first)] }
def OrderAfterSaid : Prop := orderAfterRow.holds Tryd.pinned (OpenSpec.ofChange orderAfterSpec)

/-- ITS FALSE NEIGHBOUR: 'it returns false'. Refute it at one input. -/
def orderAfterWrong : ChangeSpec := { name := "orderAfter", fn := fun _ => fun
  | [d1, d2, d3] => { results := [.lit (.bool false)], args := [d1, d2, d3] }
  | _ => none }
def OrderAfterWrongFalsely : Prop := orderAfterRow.holds Tryd.pinned (OpenSpec.ofChange orderAfterWrong)

/-- 'taprootlaw04.OrderBack': WHATEVER THE INPUT: true; the input reads as it did. -/
def orderBackSpec : ChangeSpec := { name := "orderBack", fn := fun _ => fun
  | [d1, d2] => { results := [.lit (.bool true)], args := [d1, d2] }
  | _ => none }
def orderBackRow : OpenClaim := { program := "ytckklikfikeokaadoor", sum := "4d2bc23312cd70252d7750f8dbbf5242a56cc3bae6460e246fc6f0f40b59b4e6", func := "taproot/taprootlaw04.OrderBack", spec := "orderBack", inPlace := ["internal/bytealg.CountString", "internal/bytealg.IndexByteString", "internal/bytealg.IndexString", "internal/abi.NoEscape", "internal/bytealg.MakeNoZero"], unfollowed := true, recurses := true, named := ["internal/bytealg.MaxLen", "unicode/utf8.first", "unicode/utf8.acceptRanges"], apart := false, laid := [("unicode/utf8.acceptRanges", laid_unicode_utf8_acceptRanges), ("unicode/utf8.first", laid_unicode_utf8_first)] }
def OrderBackSaid : Prop := orderBackRow.holds Tryd.pinned (OpenSpec.ofChange orderBackSpec)

/-- ITS FALSE NEIGHBOUR: 'it returns false'. Refute it at one input. -/
def orderBackWrong : ChangeSpec := { name := "orderBack", fn := fun _ => fun
  | [d1, d2] => { results := [.lit (.bool false)], args := [d1, d2] }
  | _ => none }
def OrderBackWrongFalsely : Prop := orderBackRow.holds Tryd.pinned (OpenSpec.ofChange orderBackWrong)

/-- 'taprootlaw04.OrderKeys': WHATEVER THE INPUT: true; the input reads as it did. -/
def orderKeysSpec : ChangeSpec := { name := "orderKeys", fn := fun _ => fun
  | [d1, d2, d3] => { results := [.lit (.bool true)], args := [d1, d2, d3] }
  | _ => none }
def orderKeysRow : OpenClaim := { program := "ytckklikfikeokaadoor", sum := "4d2bc23312cd70252d7750f8dbbf5242a56cc3bae6460e246fc6f0f40b59b4e6", func := "taproot/taprootlaw04.OrderKeys", spec := "orderKeys", inPlace := ["internal/bytealg.CountString", "internal/bytealg.IndexByteString", "internal/bytealg.IndexString", "internal/abi.NoEscape", "internal/bytealg.MakeNoZero"], unfollowed := true, recurses := true, named := ["internal/bytealg.MaxLen", "unicode/utf8.first", "unicode/utf8.acceptRanges"], apart := false, laid := [("unicode/utf8.acceptRanges", laid_unicode_utf8_acceptRanges), ("unicode/utf8.first", laid_unicode_utf8_first)] }
def OrderKeysSaid : Prop := orderKeysRow.holds Tryd.pinned (OpenSpec.ofChange orderKeysSpec)

/-- ITS FALSE NEIGHBOUR: 'it returns false'. Refute it at one input. -/
def orderKeysWrong : ChangeSpec := { name := "orderKeys", fn := fun _ => fun
  | [d1, d2, d3] => { results := [.lit (.bool false)], args := [d1, d2, d3] }
  | _ => none }
def OrderKeysWrongFalsely : Prop := orderKeysRow.holds Tryd.pinned (OpenSpec.ofChange orderKeysWrong)

/- THE SECOND FORM. 'bulk': how many values and letters a reading holds, each counted each time it is reached (what is shared counts as often as it is met; a slice's spare places count too). A statement '..UptoSaid' is the law's where the arguments, and the package variables that the reading takes, are together of bulk at most 1048576: NARROWER than '..Said'. Prove '..Said' where nothing that the law and all that it calls make is longer than what came in: it says more and counts as full. Else prove '..UptoSaid'. A law counts once. -/
mutual
def uptoBulk {H : Type} : DataW H → Nat
  | .lit (.string bytes) => bytes.length + 1
  | .lit _ => 1
  | .nil => 1
  | .ptr d => uptoBulk d + 1
  | .slice elems spare => uptoBulkAll elems + uptoBulkAll spare + 1
  | .agg parts => uptoBulkAll parts + 1
  | .iface _ d => uptoBulk d + 1
  | .map entries => uptoBulkEntries entries + 1
  | .held _ => 1
def uptoBulkAll {H : Type} : List (DataW H) → Nat
  | [] => 0
  | d :: r => uptoBulk d + uptoBulkAll r
def uptoBulkEntries {H : Type} : List (Lit × DataW H) → Nat
  | [] => 0
  | x :: r => uptoBulkEntry x + uptoBulkEntries r
def uptoBulkEntry {H : Type} : Lit × DataW H → Nat
  | (.string bytes, d) => bytes.length + uptoBulk d + 1
  | (_, d) => uptoBulk d + 1
 end
def uptoSmall : (H : Type) → List (DataW H) → Bool := fun _ ds => decide (uptoBulkAll ds ≤ 1048576)
def OpenSpec.upto (s : _root_.Go.ChangeSpec) : _root_.Go.OpenSpec := { _root_.Go.OpenSpec.ofChange s with cond := some uptoSmall }

/-- 'taprootlaw18.SchemaBounds', WHERE WHAT IT READS IS OF BULK AT MOST 1048576: true; the input reads as it did. -/
def schemaBoundsUptoRow : OpenClaim := { program := "ytckklikfikeokaadoor", sum := "4d2bc23312cd70252d7750f8dbbf5242a56cc3bae6460e246fc6f0f40b59b4e6", func := "taproot/taprootlaw18.SchemaBounds", spec := "schemaBounds", inPlace := ["internal/bytealg.CountString", "internal/bytealg.IndexByteString", "internal/bytealg.IndexString", "internal/abi.NoEscape", "internal/bytealg.MakeNoZero"], named := ["internal/bytealg.MaxLen", "unicode/utf8.first", "unicode/utf8.acceptRanges"], apart := false, laid := [("unicode/utf8.acceptRanges", laid_unicode_utf8_acceptRanges), ("unicode/utf8.first", laid_unicode_utf8_first)], narrowed := true }
def SchemaBoundsUptoSaid : Prop := schemaBoundsUptoRow.holds Tryd.pinned (OpenSpec.upto schemaBoundsSpec)

/-- 'taprootlaw04.OrderKeeps', WHERE WHAT IT READS IS OF BULK AT MOST 1048576: true; the input reads as it did. -/
def orderKeepsUptoRow : OpenClaim := { program := "ytckklikfikeokaadoor", sum := "4d2bc23312cd70252d7750f8dbbf5242a56cc3bae6460e246fc6f0f40b59b4e6", func := "taproot/taprootlaw04.OrderKeeps", spec := "orderKeeps", inPlace := ["internal/bytealg.CountString", "internal/bytealg.IndexByteString", "internal/bytealg.IndexString", "internal/abi.NoEscape", "internal/bytealg.MakeNoZero"], unfollowed := true, recurses := true, named := ["internal/bytealg.MaxLen", "unicode/utf8.first", "unicode/utf8.acceptRanges"], apart := false, laid := [("unicode/utf8.acceptRanges", laid_unicode_utf8_acceptRanges), ("unicode/utf8.first", laid_unicode_utf8_first)], narrowed := true }
def OrderKeepsUptoSaid : Prop := orderKeepsUptoRow.holds Tryd.pinned (OpenSpec.upto orderKeepsSpec)

/-- 'taprootlaw04.OrderAfter', WHERE WHAT IT READS IS OF BULK AT MOST 1048576: true; the input reads as it did. -/
def orderAfterUptoRow : OpenClaim := { program := "ytckklikfikeokaadoor", sum := "4d2bc23312cd70252d7750f8dbbf5242a56cc3bae6460e246fc6f0f40b59b4e6", func := "taproot/taprootlaw04.OrderAfter", spec := "orderAfter", inPlace := ["internal/bytealg.CountString", "internal/bytealg.IndexByteString", "internal/bytealg.IndexString", "internal/abi.NoEscape", "internal/bytealg.MakeNoZero"], unfollowed := true, recurses := true, named := ["internal/bytealg.MaxLen", "unicode/utf8.first", "unicode/utf8.acceptRanges"], apart := false, laid := [("unicode/utf8.acceptRanges", laid_unicode_utf8_acceptRanges), ("unicode/utf8.first", laid_unicode_utf8_first)], narrowed := true }
def OrderAfterUptoSaid : Prop := orderAfterUptoRow.holds Tryd.pinned (OpenSpec.upto orderAfterSpec)

/-- 'taprootlaw04.OrderBack', WHERE WHAT IT READS IS OF BULK AT MOST 1048576: true; the input reads as it did. -/
def orderBackUptoRow : OpenClaim := { program := "ytckklikfikeokaadoor", sum := "4d2bc23312cd70252d7750f8dbbf5242a56cc3bae6460e246fc6f0f40b59b4e6", func := "taproot/taprootlaw04.OrderBack", spec := "orderBack", inPlace := ["internal/bytealg.CountString", "internal/bytealg.IndexByteString", "internal/bytealg.IndexString", "internal/abi.NoEscape", "internal/bytealg.MakeNoZero"], unfollowed := true, recurses := true, named := ["internal/bytealg.MaxLen", "unicode/utf8.first", "unicode/utf8.acceptRanges"], apart := false, laid := [("unicode/utf8.acceptRanges", laid_unicode_utf8_acceptRanges), ("unicode/utf8.first", laid_unicode_utf8_first)], narrowed := true }
def OrderBackUptoSaid : Prop := orderBackUptoRow.holds Tryd.pinned (OpenSpec.upto orderBackSpec)

/-- 'taprootlaw04.OrderKeys', WHERE WHAT IT READS IS OF BULK AT MOST 1048576: true; the input reads as it did. -/
def orderKeysUptoRow : OpenClaim := { program := "ytckklikfikeokaadoor", sum := "4d2bc23312cd70252d7750f8dbbf5242a56cc3bae6460e246fc6f0f40b59b4e6", func := "taproot/taprootlaw04.OrderKeys", spec := "orderKeys", inPlace := ["internal/bytealg.CountString", "internal/bytealg.IndexByteString", "internal/bytealg.IndexString", "internal/abi.NoEscape", "internal/bytealg.MakeNoZero"], unfollowed := true, recurses := true, named := ["internal/bytealg.MaxLen", "unicode/utf8.first", "unicode/utf8.acceptRanges"], apart := false, laid := [("unicode/utf8.acceptRanges", laid_unicode_utf8_acceptRanges), ("unicode/utf8.first", laid_unicode_utf8_first)], narrowed := true }
def OrderKeysUptoSaid : Prop := orderKeysUptoRow.holds Tryd.pinned (OpenSpec.upto orderKeysSpec)

end Rows
end Go.Proofs.YtckklikfikeokaaDoor
