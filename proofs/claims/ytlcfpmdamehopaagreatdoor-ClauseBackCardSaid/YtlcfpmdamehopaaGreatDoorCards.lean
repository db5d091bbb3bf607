/-
  DERIVED. GIVEN WITH THE SEED: THE CARDS: each row of YtlcfpmdamehopaaGreatDoorRows.lean that lists a variable, with what it lists TIED to the program's text (the seventh form; the later family's looks); each row that meets fmt, with fmt's text TOLD by the authors' own Lean function (tested against real Go, not proved from fmt's source: count such statements apart). THE CARD IS WHAT COUNTS. Prove the row's statement (the work); the ties are given (YtlcfpmdamehopaaGreatDoorTie.lean); close each card by the builder's one call (the guide's Derived/Test/ToyasCard.lean, 'card_holds'). Laid BY PROGRAM, IN A SANDBOX (cutbox-door.mjs). By AI agents, Wed Nov 11 2026. No macro, syntax, notation, axiom, sorry.
-/
import Derived.Test.YtlcfpmdamehopaaGreatDoorRows
import GoSem.ClaimSeven
namespace Go.Proofs.YtlcfpmdamehopaaGreatDoor
namespace Rows

/-- THE TIED CARD OF 'keelsonlaw8.PinsParses'. -/
def pinsParsesCard : Claim7 := { stood := { row := pinsParsesRow, standIns := [], harness := (true, "ae8b5f4508b27d05baee40571132509b03caa991d8903e13fecbf2c179cc327a"), looks := true }, kinds := [], alts := [], laidByText := true, laidKinds := [.data, .data, .data, .data, .sentinel, .sentinel, .pinned], laidTests := true, laidLooks := .later }
def PinsParsesCardSaid : Prop := Claim7.holds Tryz.pinned (.plain (OpenSpec.ofChange pinsParsesSpec)) pinsParsesCard

/-- THE TIED CARD OF 'keelsonlaw8.PinsPrints'. -/
def pinsPrintsCard : Claim7 := { stood := { row := pinsPrintsRow, standIns := [], harness := (true, "ae8b5f4508b27d05baee40571132509b03caa991d8903e13fecbf2c179cc327a"), looks := true }, kinds := [], alts := [], laidByText := true, laidKinds := [.data, .data, .data, .data, .sentinel, .sentinel, .pinned], laidTests := true, laidLooks := .later }
def PinsPrintsCardSaid : Prop := Claim7.holds Tryz.pinned (.plain (OpenSpec.ofChange pinsPrintsSpec)) pinsPrintsCard

/-- THE TIED CARD OF 'keelsonlaw8.PinsBack'. -/
def pinsBackCard : Claim7 := { stood := { row := pinsBackRow, standIns := [], harness := (true, "ae8b5f4508b27d05baee40571132509b03caa991d8903e13fecbf2c179cc327a"), looks := true }, kinds := [], alts := [], laidByText := true, laidKinds := [.data, .data, .data, .data, .sentinel, .sentinel, .pinned], laidTests := true, laidLooks := .later }
def PinsBackCardSaid : Prop := Claim7.holds Tryz.pinned (.plain (OpenSpec.ofChange pinsBackSpec)) pinsBackCard

/-- THE TIED CARD OF 'keelsonlaw12.ClauseBack'. -/
def clauseBackCard : Claim7 := { stood := { row := clauseBackRow, standIns := [], harness := (true, "ae8b5f4508b27d05baee40571132509b03caa991d8903e13fecbf2c179cc327a"), looks := true }, kinds := [], alts := [], laidByText := true, laidKinds := [.data, .data, .data, .sentinel, .sentinel], laidTests := true, laidLooks := .later }
def ClauseBackCardSaid : Prop := Claim7.holds Tryz.pinned (.plain (OpenSpec.ofChange clauseBackSpec)) clauseBackCard

/-- THE SECOND FORM's CARD OF 'keelsonlaw8.PinsParses'. -/
def pinsParsesUptoCard : Claim7 := { stood := { row := pinsParsesUptoRow, standIns := [], harness := (true, "ae8b5f4508b27d05baee40571132509b03caa991d8903e13fecbf2c179cc327a"), looks := true }, kinds := [], alts := [], laidByText := true, laidKinds := [.data, .data, .data, .data, .sentinel, .sentinel, .pinned], laidTests := true, laidLooks := .later }
def PinsParsesUptoCardSaid : Prop := Claim7.holds Tryz.pinned (.plain (OpenSpec.upto pinsParsesSpec)) pinsParsesUptoCard

/-- THE SECOND FORM's CARD OF 'keelsonlaw8.PinsPrints'. -/
def pinsPrintsUptoCard : Claim7 := { stood := { row := pinsPrintsUptoRow, standIns := [], harness := (true, "ae8b5f4508b27d05baee40571132509b03caa991d8903e13fecbf2c179cc327a"), looks := true }, kinds := [], alts := [], laidByText := true, laidKinds := [.data, .data, .data, .data, .sentinel, .sentinel, .pinned], laidTests := true, laidLooks := .later }
def PinsPrintsUptoCardSaid : Prop := Claim7.holds Tryz.pinned (.plain (OpenSpec.upto pinsPrintsSpec)) pinsPrintsUptoCard

/-- THE SECOND FORM's CARD OF 'keelsonlaw8.PinsBack'. -/
def pinsBackUptoCard : Claim7 := { stood := { row := pinsBackUptoRow, standIns := [], harness := (true, "ae8b5f4508b27d05baee40571132509b03caa991d8903e13fecbf2c179cc327a"), looks := true }, kinds := [], alts := [], laidByText := true, laidKinds := [.data, .data, .data, .data, .sentinel, .sentinel, .pinned], laidTests := true, laidLooks := .later }
def PinsBackUptoCardSaid : Prop := Claim7.holds Tryz.pinned (.plain (OpenSpec.upto pinsBackSpec)) pinsBackUptoCard

/-- THE SECOND FORM's CARD OF 'keelsonlaw12.ClauseBack'. -/
def clauseBackUptoCard : Claim7 := { stood := { row := clauseBackUptoRow, standIns := [], harness := (true, "ae8b5f4508b27d05baee40571132509b03caa991d8903e13fecbf2c179cc327a"), looks := true }, kinds := [], alts := [], laidByText := true, laidKinds := [.data, .data, .data, .sentinel, .sentinel], laidTests := true, laidLooks := .later }
def ClauseBackUptoCardSaid : Prop := Claim7.holds Tryz.pinned (.plain (OpenSpec.upto clauseBackSpec)) clauseBackUptoCard
end Rows
end Go.Proofs.YtlcfpmdamehopaaGreatDoor
