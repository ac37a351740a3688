/-
  DERIVED. GIVEN WITH THE SEED: THE CARDS: each row of YtdpildbdbbfamaaDoorRows.lean that lists a variable, with what it lists TIED to the program's text (the seventh form; the later family's looks); each row that meets fmt, with fmt's text TOLD by the authors' own Lean function (tested against real Go, not proved from fmt's source: count such statements apart). THE CARD IS WHAT COUNTS. Prove the row's statement (the work); the ties are given (YtdpildbdbbfamaaDoorTie.lean); close each card by the builder's one call (the guide's Derived/Test/ToyasCard.lean, 'card_holds'). Laid BY PROGRAM, IN A SANDBOX (cutbox-door.mjs). By AI agents, Wed Nov 11 2026. No macro, syntax, notation, axiom, sorry.
-/
import Derived.Test.YtdpildbdbbfamaaDoorRows
import GoSem.ClaimSeven
namespace Go.Proofs.YtdpildbdbbfamaaDoor
namespace Rows

/-- THE TIED CARD OF 'taprootlaw20.TopicMatches'. -/
def topicMatchesCard : Claim7 := { stood := { row := topicMatchesRow, standIns := [], harness := (true, "024e6a9c4089fe44442bdbfdf92e767149533a727bd6ce56df8348a5362fecdb"), looks := false }, kinds := [], alts := [], laidByText := true, laidKinds := [.data, .pinned], laidTests := true, laidLooks := .later }
def TopicMatchesCardSaid : Prop := Claim7.holds Tryd.pinned (.plain (OpenSpec.ofChange topicMatchesSpec)) topicMatchesCard

/-- THE TIED CARD OF 'taprootlaw20.TopicAll'. -/
def topicAllCard : Claim7 := { stood := { row := topicAllRow, standIns := [], harness := (true, "024e6a9c4089fe44442bdbfdf92e767149533a727bd6ce56df8348a5362fecdb"), looks := false }, kinds := [], alts := [], laidByText := true, laidKinds := [.data, .pinned], laidTests := true, laidLooks := .later }
def TopicAllCardSaid : Prop := Claim7.holds Tryd.pinned (.plain (OpenSpec.ofChange topicAllSpec)) topicAllCard

/-- THE TIED CARD OF 'taprootlaw20.TopicNames'. -/
def topicNamesCard : Claim7 := { stood := { row := topicNamesRow, standIns := [], harness := (true, "024e6a9c4089fe44442bdbfdf92e767149533a727bd6ce56df8348a5362fecdb"), looks := false }, kinds := [], alts := [], laidByText := true, laidKinds := [.data, .pinned], laidTests := true, laidLooks := .later }
def TopicNamesCardSaid : Prop := Claim7.holds Tryd.pinned (.plain (OpenSpec.ofChange topicNamesSpec)) topicNamesCard

/-- THE SECOND FORM's CARD OF 'taprootlaw20.TopicMatches'. -/
def topicMatchesUptoCard : Claim7 := { stood := { row := topicMatchesUptoRow, standIns := [], harness := (true, "024e6a9c4089fe44442bdbfdf92e767149533a727bd6ce56df8348a5362fecdb"), looks := false }, kinds := [], alts := [], laidByText := true, laidKinds := [.data, .pinned], laidTests := true, laidLooks := .later }
def TopicMatchesUptoCardSaid : Prop := Claim7.holds Tryd.pinned (.plain (OpenSpec.upto topicMatchesSpec)) topicMatchesUptoCard

/-- THE SECOND FORM's CARD OF 'taprootlaw20.TopicAll'. -/
def topicAllUptoCard : Claim7 := { stood := { row := topicAllUptoRow, standIns := [], harness := (true, "024e6a9c4089fe44442bdbfdf92e767149533a727bd6ce56df8348a5362fecdb"), looks := false }, kinds := [], alts := [], laidByText := true, laidKinds := [.data, .pinned], laidTests := true, laidLooks := .later }
def TopicAllUptoCardSaid : Prop := Claim7.holds Tryd.pinned (.plain (OpenSpec.upto topicAllSpec)) topicAllUptoCard

/-- THE SECOND FORM's CARD OF 'taprootlaw20.TopicNames'. -/
def topicNamesUptoCard : Claim7 := { stood := { row := topicNamesUptoRow, standIns := [], harness := (true, "024e6a9c4089fe44442bdbfdf92e767149533a727bd6ce56df8348a5362fecdb"), looks := false }, kinds := [], alts := [], laidByText := true, laidKinds := [.data, .pinned], laidTests := true, laidLooks := .later }
def TopicNamesUptoCardSaid : Prop := Claim7.holds Tryd.pinned (.plain (OpenSpec.upto topicNamesSpec)) topicNamesUptoCard
end Rows
end Go.Proofs.YtdpildbdbbfamaaDoor
