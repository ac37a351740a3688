/-
  DERIVED. GIVEN WITH THE SEED: THE CARDS: each row of YtckklikfikeokaaDoorRows.lean that lists a variable, with what it lists TIED to the program's text (the seventh form; the later family's looks); each row that meets fmt, with fmt's text TOLD by the authors' own Lean function (tested against real Go, not proved from fmt's source: count such statements apart). THE CARD IS WHAT COUNTS. Prove the row's statement (the work); the ties are given (YtckklikfikeokaaDoorTie.lean); close each card by the builder's one call (the guide's Derived/Test/ToyasCard.lean, 'card_holds'). Laid BY PROGRAM, IN A SANDBOX (cutbox-door.mjs). By AI agents, Wed Nov 11 2026. No macro, syntax, notation, axiom, sorry.
-/
import Derived.Test.YtckklikfikeokaaDoorRows
import GoSem.ClaimSeven
namespace Go.Proofs.YtckklikfikeokaaDoor
namespace Rows

/-- THE TIED CARD OF 'taprootlaw18.SchemaBounds'. -/
def schemaBoundsCard : Claim7 := { stood := { row := schemaBoundsRow, standIns := [], harness := (true, "ae04c3a9f838bb904d689d4f510d27e54c17d1233f4e45dc88d803a8758a45df"), looks := false }, kinds := [], alts := [], laidByText := true, laidKinds := [.data, .pinned], laidTests := true, laidLooks := .later }
def SchemaBoundsCardSaid : Prop := Claim7.holds Tryd.pinned (.plain (OpenSpec.ofChange schemaBoundsSpec)) schemaBoundsCard

/-- THE TIED CARD OF 'taprootlaw04.OrderKeeps'. -/
def orderKeepsCard : Claim7 := { stood := { row := orderKeepsRow, standIns := [], harness := (true, "ae04c3a9f838bb904d689d4f510d27e54c17d1233f4e45dc88d803a8758a45df"), looks := false }, kinds := [], alts := [], laidByText := true, laidKinds := [.data, .pinned], laidTests := true, laidLooks := .later }
def OrderKeepsCardSaid : Prop := Claim7.holds Tryd.pinned (.plain (OpenSpec.ofChange orderKeepsSpec)) orderKeepsCard

/-- THE TIED CARD OF 'taprootlaw04.OrderAfter'. -/
def orderAfterCard : Claim7 := { stood := { row := orderAfterRow, standIns := [], harness := (true, "ae04c3a9f838bb904d689d4f510d27e54c17d1233f4e45dc88d803a8758a45df"), looks := false }, kinds := [], alts := [], laidByText := true, laidKinds := [.data, .pinned], laidTests := true, laidLooks := .later }
def OrderAfterCardSaid : Prop := Claim7.holds Tryd.pinned (.plain (OpenSpec.ofChange orderAfterSpec)) orderAfterCard

/-- THE TIED CARD OF 'taprootlaw04.OrderBack'. -/
def orderBackCard : Claim7 := { stood := { row := orderBackRow, standIns := [], harness := (true, "ae04c3a9f838bb904d689d4f510d27e54c17d1233f4e45dc88d803a8758a45df"), looks := false }, kinds := [], alts := [], laidByText := true, laidKinds := [.data, .pinned], laidTests := true, laidLooks := .later }
def OrderBackCardSaid : Prop := Claim7.holds Tryd.pinned (.plain (OpenSpec.ofChange orderBackSpec)) orderBackCard

/-- THE TIED CARD OF 'taprootlaw04.OrderKeys'. -/
def orderKeysCard : Claim7 := { stood := { row := orderKeysRow, standIns := [], harness := (true, "ae04c3a9f838bb904d689d4f510d27e54c17d1233f4e45dc88d803a8758a45df"), looks := false }, kinds := [], alts := [], laidByText := true, laidKinds := [.data, .pinned], laidTests := true, laidLooks := .later }
def OrderKeysCardSaid : Prop := Claim7.holds Tryd.pinned (.plain (OpenSpec.ofChange orderKeysSpec)) orderKeysCard

/-- THE SECOND FORM's CARD OF 'taprootlaw18.SchemaBounds'. -/
def schemaBoundsUptoCard : Claim7 := { stood := { row := schemaBoundsUptoRow, standIns := [], harness := (true, "ae04c3a9f838bb904d689d4f510d27e54c17d1233f4e45dc88d803a8758a45df"), looks := false }, kinds := [], alts := [], laidByText := true, laidKinds := [.data, .pinned], laidTests := true, laidLooks := .later }
def SchemaBoundsUptoCardSaid : Prop := Claim7.holds Tryd.pinned (.plain (OpenSpec.upto schemaBoundsSpec)) schemaBoundsUptoCard

/-- THE SECOND FORM's CARD OF 'taprootlaw04.OrderKeeps'. -/
def orderKeepsUptoCard : Claim7 := { stood := { row := orderKeepsUptoRow, standIns := [], harness := (true, "ae04c3a9f838bb904d689d4f510d27e54c17d1233f4e45dc88d803a8758a45df"), looks := false }, kinds := [], alts := [], laidByText := true, laidKinds := [.data, .pinned], laidTests := true, laidLooks := .later }
def OrderKeepsUptoCardSaid : Prop := Claim7.holds Tryd.pinned (.plain (OpenSpec.upto orderKeepsSpec)) orderKeepsUptoCard

/-- THE SECOND FORM's CARD OF 'taprootlaw04.OrderAfter'. -/
def orderAfterUptoCard : Claim7 := { stood := { row := orderAfterUptoRow, standIns := [], harness := (true, "ae04c3a9f838bb904d689d4f510d27e54c17d1233f4e45dc88d803a8758a45df"), looks := false }, kinds := [], alts := [], laidByText := true, laidKinds := [.data, .pinned], laidTests := true, laidLooks := .later }
def OrderAfterUptoCardSaid : Prop := Claim7.holds Tryd.pinned (.plain (OpenSpec.upto orderAfterSpec)) orderAfterUptoCard

/-- THE SECOND FORM's CARD OF 'taprootlaw04.OrderBack'. -/
def orderBackUptoCard : Claim7 := { stood := { row := orderBackUptoRow, standIns := [], harness := (true, "ae04c3a9f838bb904d689d4f510d27e54c17d1233f4e45dc88d803a8758a45df"), looks := false }, kinds := [], alts := [], laidByText := true, laidKinds := [.data, .pinned], laidTests := true, laidLooks := .later }
def OrderBackUptoCardSaid : Prop := Claim7.holds Tryd.pinned (.plain (OpenSpec.upto orderBackSpec)) orderBackUptoCard

/-- THE SECOND FORM's CARD OF 'taprootlaw04.OrderKeys'. -/
def orderKeysUptoCard : Claim7 := { stood := { row := orderKeysUptoRow, standIns := [], harness := (true, "ae04c3a9f838bb904d689d4f510d27e54c17d1233f4e45dc88d803a8758a45df"), looks := false }, kinds := [], alts := [], laidByText := true, laidKinds := [.data, .pinned], laidTests := true, laidLooks := .later }
def OrderKeysUptoCardSaid : Prop := Claim7.holds Tryd.pinned (.plain (OpenSpec.upto orderKeysSpec)) orderKeysUptoCard
end Rows
end Go.Proofs.YtckklikfikeokaaDoor
