/-
  DERIVED. GIVEN WITH THE SEED: THE CARDS: each row of YtekplcjgmnahmaaDoorRows.lean that lists a variable, with what it lists TIED to the program's text (the seventh form; the later family's looks); each row that meets fmt, with fmt's text TOLD by the authors' own Lean function (tested against real Go, not proved from fmt's source: count such statements apart). THE CARD IS WHAT COUNTS. Prove the row's statement (the work); the ties are given (YtekplcjgmnahmaaDoorTie.lean); close each card by the builder's one call (the guide's Derived/Test/ToyasCard.lean, 'card_holds'). Laid BY PROGRAM, IN A SANDBOX (cutbox-door.mjs). By AI agents, Wed Nov 11 2026. No macro, syntax, notation, axiom, sorry.
-/
import Derived.Test.YtekplcjgmnahmaaDoorRows
import GoSem.ClaimSeven
namespace Go.Proofs.YtekplcjgmnahmaaDoor
namespace Rows

/-- THE TIED CARD OF 'keelsonlaw5.StanzaParses'. -/
def stanzaParsesCard : Claim7 := { stood := { row := stanzaParsesRow, standIns := [], harness := (true, "e92b81f376b973091396ef97f828d6e392391b83c63ac2be2249062c92d9016a"), looks := true }, kinds := [], alts := [], laidByText := true, laidKinds := [.data, .pinned], laidTests := true, laidLooks := .later }
def StanzaParsesCardSaid : Prop := Claim7.holds Tryd.pinned (.plain (OpenSpec.ofChange stanzaParsesSpec)) stanzaParsesCard

/-- THE TIED CARD OF 'keelsonlaw5.StanzaJoins'. -/
def stanzaJoinsCard : Claim7 := { stood := { row := stanzaJoinsRow, standIns := [], harness := (true, "e92b81f376b973091396ef97f828d6e392391b83c63ac2be2249062c92d9016a"), looks := true }, kinds := [], alts := [], laidByText := true, laidKinds := [.data, .pinned], laidTests := true, laidLooks := .later }
def StanzaJoinsCardSaid : Prop := Claim7.holds Tryd.pinned (.plain (OpenSpec.ofChange stanzaJoinsSpec)) stanzaJoinsCard

/-- THE TIED CARD OF 'keelsonlaw5.StanzaPuts'. -/
def stanzaPutsCard : Claim7 := { stood := { row := stanzaPutsRow, standIns := [], harness := (true, "e92b81f376b973091396ef97f828d6e392391b83c63ac2be2249062c92d9016a"), looks := true }, kinds := [], alts := [], laidByText := true, laidKinds := [.data, .pinned], laidTests := true, laidLooks := .later }
def StanzaPutsCardSaid : Prop := Claim7.holds Tryd.pinned (.plain (OpenSpec.ofChange stanzaPutsSpec)) stanzaPutsCard

/-- THE TIED CARD OF 'keelsonlaw5.StanzaFields'. -/
def stanzaFieldsCard : Claim7 := { stood := { row := stanzaFieldsRow, standIns := [], harness := (true, "e92b81f376b973091396ef97f828d6e392391b83c63ac2be2249062c92d9016a"), looks := true }, kinds := [], alts := [], laidByText := true, laidKinds := [.data, .pinned], laidTests := true, laidLooks := .later }
def StanzaFieldsCardSaid : Prop := Claim7.holds Tryd.pinned (.plain (OpenSpec.ofChange stanzaFieldsSpec)) stanzaFieldsCard

/-- THE TIED CARD OF 'keelsonlaw5.StanzaOnly'. -/
def stanzaOnlyCard : Claim7 := { stood := { row := stanzaOnlyRow, standIns := [], harness := (true, "e92b81f376b973091396ef97f828d6e392391b83c63ac2be2249062c92d9016a"), looks := true }, kinds := [], alts := [], laidByText := true, laidKinds := [.data, .pinned], laidTests := true, laidLooks := .later }
def StanzaOnlyCardSaid : Prop := Claim7.holds Tryd.pinned (.plain (OpenSpec.ofChange stanzaOnlySpec)) stanzaOnlyCard

/-- THE TIED CARD OF 'keelsonlaw5.StanzaPrints'. -/
def stanzaPrintsCard : Claim7 := { stood := { row := stanzaPrintsRow, standIns := [], harness := (true, "e92b81f376b973091396ef97f828d6e392391b83c63ac2be2249062c92d9016a"), looks := true }, kinds := [], alts := [], laidByText := true, laidKinds := [.data, .pinned], laidTests := true, laidLooks := .later }
def StanzaPrintsCardSaid : Prop := Claim7.holds Tryd.pinned (.plain (OpenSpec.ofChange stanzaPrintsSpec)) stanzaPrintsCard

/-- THE SECOND FORM's CARD OF 'keelsonlaw5.StanzaParses'. -/
def stanzaParsesUptoCard : Claim7 := { stood := { row := stanzaParsesUptoRow, standIns := [], harness := (true, "e92b81f376b973091396ef97f828d6e392391b83c63ac2be2249062c92d9016a"), looks := true }, kinds := [], alts := [], laidByText := true, laidKinds := [.data, .pinned], laidTests := true, laidLooks := .later }
def StanzaParsesUptoCardSaid : Prop := Claim7.holds Tryd.pinned (.plain (OpenSpec.upto stanzaParsesSpec)) stanzaParsesUptoCard

/-- THE SECOND FORM's CARD OF 'keelsonlaw5.StanzaJoins'. -/
def stanzaJoinsUptoCard : Claim7 := { stood := { row := stanzaJoinsUptoRow, standIns := [], harness := (true, "e92b81f376b973091396ef97f828d6e392391b83c63ac2be2249062c92d9016a"), looks := true }, kinds := [], alts := [], laidByText := true, laidKinds := [.data, .pinned], laidTests := true, laidLooks := .later }
def StanzaJoinsUptoCardSaid : Prop := Claim7.holds Tryd.pinned (.plain (OpenSpec.upto stanzaJoinsSpec)) stanzaJoinsUptoCard

/-- THE SECOND FORM's CARD OF 'keelsonlaw5.StanzaPuts'. -/
def stanzaPutsUptoCard : Claim7 := { stood := { row := stanzaPutsUptoRow, standIns := [], harness := (true, "e92b81f376b973091396ef97f828d6e392391b83c63ac2be2249062c92d9016a"), looks := true }, kinds := [], alts := [], laidByText := true, laidKinds := [.data, .pinned], laidTests := true, laidLooks := .later }
def StanzaPutsUptoCardSaid : Prop := Claim7.holds Tryd.pinned (.plain (OpenSpec.upto stanzaPutsSpec)) stanzaPutsUptoCard

/-- THE SECOND FORM's CARD OF 'keelsonlaw5.StanzaFields'. -/
def stanzaFieldsUptoCard : Claim7 := { stood := { row := stanzaFieldsUptoRow, standIns := [], harness := (true, "e92b81f376b973091396ef97f828d6e392391b83c63ac2be2249062c92d9016a"), looks := true }, kinds := [], alts := [], laidByText := true, laidKinds := [.data, .pinned], laidTests := true, laidLooks := .later }
def StanzaFieldsUptoCardSaid : Prop := Claim7.holds Tryd.pinned (.plain (OpenSpec.upto stanzaFieldsSpec)) stanzaFieldsUptoCard

/-- THE SECOND FORM's CARD OF 'keelsonlaw5.StanzaOnly'. -/
def stanzaOnlyUptoCard : Claim7 := { stood := { row := stanzaOnlyUptoRow, standIns := [], harness := (true, "e92b81f376b973091396ef97f828d6e392391b83c63ac2be2249062c92d9016a"), looks := true }, kinds := [], alts := [], laidByText := true, laidKinds := [.data, .pinned], laidTests := true, laidLooks := .later }
def StanzaOnlyUptoCardSaid : Prop := Claim7.holds Tryd.pinned (.plain (OpenSpec.upto stanzaOnlySpec)) stanzaOnlyUptoCard

/-- THE SECOND FORM's CARD OF 'keelsonlaw5.StanzaPrints'. -/
def stanzaPrintsUptoCard : Claim7 := { stood := { row := stanzaPrintsUptoRow, standIns := [], harness := (true, "e92b81f376b973091396ef97f828d6e392391b83c63ac2be2249062c92d9016a"), looks := true }, kinds := [], alts := [], laidByText := true, laidKinds := [.data, .pinned], laidTests := true, laidLooks := .later }
def StanzaPrintsUptoCardSaid : Prop := Claim7.holds Tryd.pinned (.plain (OpenSpec.upto stanzaPrintsSpec)) stanzaPrintsUptoCard
end Rows
end Go.Proofs.YtekplcjgmnahmaaDoor
