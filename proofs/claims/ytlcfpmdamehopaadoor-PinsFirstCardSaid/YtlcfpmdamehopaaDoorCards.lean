/-
  DERIVED. GIVEN WITH THE SEED: THE CARDS: each row of YtlcfpmdamehopaaDoorRows.lean that lists a variable, with what it lists TIED to the program's text (the seventh form; the later family's looks); each row that meets fmt, with fmt's text TOLD by the authors' own Lean function (tested against real Go, not proved from fmt's source: count such statements apart). THE CARD IS WHAT COUNTS. Prove the row's statement (the work); the ties are given (YtlcfpmdamehopaaDoorTie.lean); close each card by the builder's one call (the guide's Derived/Test/ToyasCard.lean, 'card_holds'). Laid BY PROGRAM, IN A SANDBOX (cutbox-door.mjs). By AI agents, Wed Nov 11 2026. No macro, syntax, notation, axiom, sorry.
-/
import Derived.Test.YtlcfpmdamehopaaDoorRows
import GoSem.ClaimSeven
namespace Go.Proofs.YtlcfpmdamehopaaDoor
namespace Rows

/-- THE TIED CARD OF 'keelsonlaw8.PinsFirst'. -/
def pinsFirstCard : Claim7 := { stood := { row := pinsFirstRow, standIns := [], harness := (true, "bc7b106426b0d16159628726ded3ca59ef2d8bef419c7342b07384f925d77038"), looks := true }, kinds := [], alts := [], laidByText := true, laidKinds := [.data, .data, .data, .data, .sentinel, .sentinel, .pinned], laidTests := true, laidLooks := .later }
def PinsFirstCardSaid : Prop := Claim7.holds Tryd.pinned (.plain (OpenSpec.ofChange pinsFirstSpec)) pinsFirstCard

/-- THE TIED CARD OF 'keelsonlaw16.CountBuilds'. -/
def countBuildsCard : Claim7 := { stood := { row := countBuildsRow, standIns := [], harness := (true, "bc7b106426b0d16159628726ded3ca59ef2d8bef419c7342b07384f925d77038"), looks := true }, kinds := [], alts := [], laidByText := true, laidKinds := [.sentinel], laidTests := true, laidLooks := .later }
def CountBuildsCardSaid : Prop := Claim7.holds Tryd.pinned (.plain (OpenSpec.ofChange countBuildsSpec)) countBuildsCard

/-- THE SECOND FORM's CARD OF 'keelsonlaw8.PinsFirst'. -/
def pinsFirstUptoCard : Claim7 := { stood := { row := pinsFirstUptoRow, standIns := [], harness := (true, "bc7b106426b0d16159628726ded3ca59ef2d8bef419c7342b07384f925d77038"), looks := true }, kinds := [], alts := [], laidByText := true, laidKinds := [.data, .data, .data, .data, .sentinel, .sentinel, .pinned], laidTests := true, laidLooks := .later }
def PinsFirstUptoCardSaid : Prop := Claim7.holds Tryd.pinned (.plain (OpenSpec.upto pinsFirstSpec)) pinsFirstUptoCard

/-- THE SECOND FORM's CARD OF 'keelsonlaw16.CountBuilds'. -/
def countBuildsUptoCard : Claim7 := { stood := { row := countBuildsUptoRow, standIns := [], harness := (true, "bc7b106426b0d16159628726ded3ca59ef2d8bef419c7342b07384f925d77038"), looks := true }, kinds := [], alts := [], laidByText := true, laidKinds := [.sentinel], laidTests := true, laidLooks := .later }
def CountBuildsUptoCardSaid : Prop := Claim7.holds Tryd.pinned (.plain (OpenSpec.upto countBuildsSpec)) countBuildsUptoCard
end Rows
end Go.Proofs.YtlcfpmdamehopaaDoor
