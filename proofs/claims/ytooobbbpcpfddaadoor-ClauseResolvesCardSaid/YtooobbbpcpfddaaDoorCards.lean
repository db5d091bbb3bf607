/-
  DERIVED. GIVEN WITH THE SEED: THE CARDS: each row of YtooobbbpcpfddaaDoorRows.lean that lists a variable, with what it lists TIED to the program's text (the seventh form; the later family's looks); each row that meets fmt, with fmt's text TOLD by the authors' own Lean function (tested against real Go, not proved from fmt's source: count such statements apart). THE CARD IS WHAT COUNTS. Prove the row's statement (the work); the ties are given (YtooobbbpcpfddaaDoorTie.lean); close each card by the builder's one call (the guide's Derived/Test/ToyasCard.lean, 'card_holds'). Laid BY PROGRAM, IN A SANDBOX (cutbox-door.mjs). By AI agents, Wed Nov 11 2026. No macro, syntax, notation, axiom, sorry.
-/
import Derived.Test.YtooobbbpcpfddaaDoorRows
import GoSem.ClaimSeven
namespace Go.Proofs.YtooobbbpcpfddaaDoor
namespace Rows

/-- THE TIED CARD OF 'keelsonlaw16.CountLimits'. -/
def countLimitsCard : Claim7 := { stood := { row := countLimitsRow, standIns := [], harness := (true, "50f0e204e2e1b8ec4550c1c31b3a1666561aa4646da72df0bbaa546a78d4723c"), looks := true }, kinds := [], alts := [], laidByText := true, laidKinds := [.sentinel], laidTests := true, laidLooks := .later }
def CountLimitsCardSaid : Prop := Claim7.holds Tryd.pinned (.plain (OpenSpec.ofChange countLimitsSpec)) countLimitsCard

/-- THE TIED CARD OF 'keelsonlaw16.CountJoins'. -/
def countJoinsCard : Claim7 := { stood := { row := countJoinsRow, standIns := [], harness := (true, "50f0e204e2e1b8ec4550c1c31b3a1666561aa4646da72df0bbaa546a78d4723c"), looks := true }, kinds := [], alts := [], laidByText := true, laidKinds := [.sentinel], laidTests := true, laidLooks := .later }
def CountJoinsCardSaid : Prop := Claim7.holds Tryd.pinned (.plain (OpenSpec.ofChange countJoinsSpec)) countJoinsCard

/-- THE TIED CARD OF 'keelsonlaw16.CountTells'. -/
def countTellsCard : Claim7 := { stood := { row := countTellsRow, standIns := [], harness := (true, "50f0e204e2e1b8ec4550c1c31b3a1666561aa4646da72df0bbaa546a78d4723c"), looks := true }, kinds := [], alts := [], laidByText := true, laidKinds := [.sentinel], laidTests := true, laidLooks := .later }
def CountTellsCardSaid : Prop := Claim7.holds Tryd.pinned (.plain (OpenSpec.ofChange countTellsSpec)) countTellsCard

/-- THE TIED CARD OF 'keelsonlaw16.CountBuilds'. -/
def countBuildsCard : Claim7 := { stood := { row := countBuildsRow, standIns := [], harness := (true, "50f0e204e2e1b8ec4550c1c31b3a1666561aa4646da72df0bbaa546a78d4723c"), looks := true }, kinds := [], alts := [], laidByText := true, laidKinds := [.sentinel], laidTests := true, laidLooks := .later }
def CountBuildsCardSaid : Prop := Claim7.holds Tryd.pinned (.plain (OpenSpec.ofChange countBuildsSpec)) countBuildsCard

/-- THE TIED CARD OF 'keelsonlaw12.ClauseUnits'. -/
def clauseUnitsCard : Claim7 := { stood := { row := clauseUnitsRow, standIns := [], harness := (true, "50f0e204e2e1b8ec4550c1c31b3a1666561aa4646da72df0bbaa546a78d4723c"), looks := true }, kinds := [], alts := [], laidByText := true, laidKinds := [.data, .data, .data], laidTests := true, laidLooks := .later }
def ClauseUnitsCardSaid : Prop := Claim7.holds Tryd.pinned (.plain (OpenSpec.ofChange clauseUnitsSpec)) clauseUnitsCard

/-- THE TIED CARD OF 'keelsonlaw12.ClauseOrder'. -/
def clauseOrderCard : Claim7 := { stood := { row := clauseOrderRow, standIns := [], harness := (true, "50f0e204e2e1b8ec4550c1c31b3a1666561aa4646da72df0bbaa546a78d4723c"), looks := true }, kinds := [], alts := [], laidByText := true, laidKinds := [.data, .data, .data], laidTests := true, laidLooks := .later }
def ClauseOrderCardSaid : Prop := Claim7.holds Tryd.pinned (.plain (OpenSpec.ofChange clauseOrderSpec)) clauseOrderCard

/-- THE TIED CARD OF 'keelsonlaw12.ClauseFollows'. -/
def clauseFollowsCard : Claim7 := { stood := { row := clauseFollowsRow, standIns := [], harness := (true, "50f0e204e2e1b8ec4550c1c31b3a1666561aa4646da72df0bbaa546a78d4723c"), looks := true }, kinds := [], alts := [], laidByText := true, laidKinds := [.data, .data, .data], laidTests := true, laidLooks := .later }
def ClauseFollowsCardSaid : Prop := Claim7.holds Tryd.pinned (.plain (OpenSpec.ofChange clauseFollowsSpec)) clauseFollowsCard

/-- THE TIED CARD OF 'keelsonlaw12.ClauseResolves'. -/
def clauseResolvesCard : Claim7 := { stood := { row := clauseResolvesRow, standIns := [], harness := (true, "50f0e204e2e1b8ec4550c1c31b3a1666561aa4646da72df0bbaa546a78d4723c"), looks := true }, kinds := [], alts := [], laidByText := true, laidKinds := [.data, .data, .data], laidTests := true, laidLooks := .later }
def ClauseResolvesCardSaid : Prop := Claim7.holds Tryd.pinned (.plain (OpenSpec.ofChange clauseResolvesSpec)) clauseResolvesCard

/-- THE SECOND FORM's CARD OF 'keelsonlaw16.CountLimits'. -/
def countLimitsUptoCard : Claim7 := { stood := { row := countLimitsUptoRow, standIns := [], harness := (true, "50f0e204e2e1b8ec4550c1c31b3a1666561aa4646da72df0bbaa546a78d4723c"), looks := true }, kinds := [], alts := [], laidByText := true, laidKinds := [.sentinel], laidTests := true, laidLooks := .later }
def CountLimitsUptoCardSaid : Prop := Claim7.holds Tryd.pinned (.plain (OpenSpec.upto countLimitsSpec)) countLimitsUptoCard

/-- THE SECOND FORM's CARD OF 'keelsonlaw16.CountJoins'. -/
def countJoinsUptoCard : Claim7 := { stood := { row := countJoinsUptoRow, standIns := [], harness := (true, "50f0e204e2e1b8ec4550c1c31b3a1666561aa4646da72df0bbaa546a78d4723c"), looks := true }, kinds := [], alts := [], laidByText := true, laidKinds := [.sentinel], laidTests := true, laidLooks := .later }
def CountJoinsUptoCardSaid : Prop := Claim7.holds Tryd.pinned (.plain (OpenSpec.upto countJoinsSpec)) countJoinsUptoCard

/-- THE SECOND FORM's CARD OF 'keelsonlaw16.CountTells'. -/
def countTellsUptoCard : Claim7 := { stood := { row := countTellsUptoRow, standIns := [], harness := (true, "50f0e204e2e1b8ec4550c1c31b3a1666561aa4646da72df0bbaa546a78d4723c"), looks := true }, kinds := [], alts := [], laidByText := true, laidKinds := [.sentinel], laidTests := true, laidLooks := .later }
def CountTellsUptoCardSaid : Prop := Claim7.holds Tryd.pinned (.plain (OpenSpec.upto countTellsSpec)) countTellsUptoCard

/-- THE SECOND FORM's CARD OF 'keelsonlaw16.CountBuilds'. -/
def countBuildsUptoCard : Claim7 := { stood := { row := countBuildsUptoRow, standIns := [], harness := (true, "50f0e204e2e1b8ec4550c1c31b3a1666561aa4646da72df0bbaa546a78d4723c"), looks := true }, kinds := [], alts := [], laidByText := true, laidKinds := [.sentinel], laidTests := true, laidLooks := .later }
def CountBuildsUptoCardSaid : Prop := Claim7.holds Tryd.pinned (.plain (OpenSpec.upto countBuildsSpec)) countBuildsUptoCard

/-- THE SECOND FORM's CARD OF 'keelsonlaw12.ClauseUnits'. -/
def clauseUnitsUptoCard : Claim7 := { stood := { row := clauseUnitsUptoRow, standIns := [], harness := (true, "50f0e204e2e1b8ec4550c1c31b3a1666561aa4646da72df0bbaa546a78d4723c"), looks := true }, kinds := [], alts := [], laidByText := true, laidKinds := [.data, .data, .data], laidTests := true, laidLooks := .later }
def ClauseUnitsUptoCardSaid : Prop := Claim7.holds Tryd.pinned (.plain (OpenSpec.upto clauseUnitsSpec)) clauseUnitsUptoCard

/-- THE SECOND FORM's CARD OF 'keelsonlaw12.ClauseOrder'. -/
def clauseOrderUptoCard : Claim7 := { stood := { row := clauseOrderUptoRow, standIns := [], harness := (true, "50f0e204e2e1b8ec4550c1c31b3a1666561aa4646da72df0bbaa546a78d4723c"), looks := true }, kinds := [], alts := [], laidByText := true, laidKinds := [.data, .data, .data], laidTests := true, laidLooks := .later }
def ClauseOrderUptoCardSaid : Prop := Claim7.holds Tryd.pinned (.plain (OpenSpec.upto clauseOrderSpec)) clauseOrderUptoCard

/-- THE SECOND FORM's CARD OF 'keelsonlaw12.ClauseFollows'. -/
def clauseFollowsUptoCard : Claim7 := { stood := { row := clauseFollowsUptoRow, standIns := [], harness := (true, "50f0e204e2e1b8ec4550c1c31b3a1666561aa4646da72df0bbaa546a78d4723c"), looks := true }, kinds := [], alts := [], laidByText := true, laidKinds := [.data, .data, .data], laidTests := true, laidLooks := .later }
def ClauseFollowsUptoCardSaid : Prop := Claim7.holds Tryd.pinned (.plain (OpenSpec.upto clauseFollowsSpec)) clauseFollowsUptoCard

/-- THE SECOND FORM's CARD OF 'keelsonlaw12.ClauseResolves'. -/
def clauseResolvesUptoCard : Claim7 := { stood := { row := clauseResolvesUptoRow, standIns := [], harness := (true, "50f0e204e2e1b8ec4550c1c31b3a1666561aa4646da72df0bbaa546a78d4723c"), looks := true }, kinds := [], alts := [], laidByText := true, laidKinds := [.data, .data, .data], laidTests := true, laidLooks := .later }
def ClauseResolvesUptoCardSaid : Prop := Claim7.holds Tryd.pinned (.plain (OpenSpec.upto clauseResolvesSpec)) clauseResolvesUptoCard
end Rows
end Go.Proofs.YtooobbbpcpfddaaDoor
