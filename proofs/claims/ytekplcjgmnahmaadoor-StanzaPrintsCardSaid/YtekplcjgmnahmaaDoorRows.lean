/-
  NARROWER THAN 'FOR EVERY INPUT', by the rows' own cells (each row's printed sentence says how): StanzaParses: laid · StanzaJoins: laid · StanzaPuts: laid · StanzaFields: laid · StanzaOnly: laid · StanzaPrints: laid.
  DERIVED. THE GIVEN ROWS OF THIS SEAT. 6 by the template 'for every input the law returns true; each argument reads behind the call as it read before'; 0 by the template 'total and deterministic' (their statements: YtekplcjgmnahmaaDoorTotals.lean).
  GIVEN WITH THE SEED: the statements are not yours to turn. If you find one false, say at which input.
  Laid BY PROGRAM, IN A SANDBOX (cutbox-rows.mjs): the forced cells as the released guide's own fill.sh prints them over the translation 3006b8b11d1db50f… (all of the seat's roots in one cut). By AI agents, Wed Nov 11 2026. No macro, syntax, notation, axiom, sorry.
-/
import Derived.Test.YtekplcjgmnahmaaDoorChecked
import GoSem.PinnedTables
import GoSem.Claim
import GoSem.ClaimJoined
import GoSem.ClaimMapViews
import Derived.JoinedTies
import Derived.KernelRfl
namespace Go.Proofs.YtekplcjgmnahmaaDoor
/- THE CELL 'sum', in the pinned program and in every row, IS THE sha256 OF THE DUMP (.gsa) THAT YtekplcjgmnahmaaDoorProg.lean LOADS. Nothing in Lean hashes anything: it is a label: what it is worth is what the hold of that sum in a sandbox is worth. -/
noncomputable def Tryd.pinned : Pinned := { name := "ytekplcjgmnahmaadoor", sum := "3006b8b11d1db50fb194308f932dc96d8b8732b3ee9bd7d6f0c952349e8a2cf7", checked := Tryd.checked }
namespace Rows
def none {H : Type} : Left H := { results := [], args := [] }

/- WHAT THE LISTED PACKAGE-LEVEL VARIABLES READ AS WHEN THE CALL BEGINS. Each datum BY PROGRAM (the guide's laid-datum.mjs) off the statement by which the dump's own 'gosem.cut.vars' lays the variable. In a bare row this is a premise. The card (YtekplcjgmnahmaaDoorCards.lean) ties it to the program's text. -/
def laid_unicode_utf8_acceptRanges {H : Type} : DataW H := .agg [.agg [.lit (.int .u8 128), .lit (.int .u8 191)], .agg [.lit (.int .u8 160), .lit (.int .u8 191)], .agg [.lit (.int .u8 128), .lit (.int .u8 159)], .agg [.lit (.int .u8 144), .lit (.int .u8 191)], .agg [.lit (.int .u8 128), .lit (.int .u8 143)], .agg [.lit (.int .u8 0), .lit (.int .u8 0)], .agg [.lit (.int .u8 0), .lit (.int .u8 0)], .agg [.lit (.int .u8 0), .lit (.int .u8 0)], .agg [.lit (.int .u8 0), .lit (.int .u8 0)], .agg [.lit (.int .u8 0), .lit (.int .u8 0)], .agg [.lit (.int .u8 0), .lit (.int .u8 0)], .agg [.lit (.int .u8 0), .lit (.int .u8 0)], .agg [.lit (.int .u8 0), .lit (.int .u8 0)], .agg [.lit (.int .u8 0), .lit (.int .u8 0)], .agg [.lit (.int .u8 0), .lit (.int .u8 0)], .agg [.lit (.int .u8 0), .lit (.int .u8 0)]]
/-- One of Go's own tables, pinned by name: the form's constant. -/
def laid_unicode_utf8_first : DataW Unit := Go.Pinned.utf8First

/-- 'keelsonlaw5.StanzaParses': WHATEVER THE INPUT: true; the input reads as it did. -/
def stanzaParsesSpec : ChangeSpec := { name := "stanzaParses", fn := fun _ => fun
  | [d] => { results := [.lit (.bool true)], args := [d] }
  | _ => none }
def stanzaParsesRow : OpenClaim := { program := "ytekplcjgmnahmaadoor", sum := "3006b8b11d1db50fb194308f932dc96d8b8732b3ee9bd7d6f0c952349e8a2cf7", func := "keelson/keelsonlaw5.StanzaParses", spec := "stanzaParses", inPlace := ["internal/bytealg.CountString", "internal/bytealg.IndexByteString", "internal/bytealg.IndexString"], unfollowed := true, recurses := true, named := ["unicode/utf8.first", "unicode/utf8.acceptRanges", "internal/bytealg.MaxLen"], apart := false, laid := [("unicode/utf8.acceptRanges", laid_unicode_utf8_acceptRanges), ("unicode/utf8.first", laid_unicode_utf8_first)] }
def StanzaParsesSaid : Prop := stanzaParsesRow.holds Tryd.pinned (OpenSpec.ofChange stanzaParsesSpec)

/-- ITS FALSE NEIGHBOUR: 'it returns false'. Refute it at one input. -/
def stanzaParsesWrong : ChangeSpec := { name := "stanzaParses", fn := fun _ => fun
  | [d] => { results := [.lit (.bool false)], args := [d] }
  | _ => none }
def StanzaParsesWrongFalsely : Prop := stanzaParsesRow.holds Tryd.pinned (OpenSpec.ofChange stanzaParsesWrong)

/-- 'keelsonlaw5.StanzaJoins': WHATEVER THE INPUT: true; the input reads as it did. -/
def stanzaJoinsSpec : ChangeSpec := { name := "stanzaJoins", fn := fun _ => fun
  | [d1, d2, d3] => { results := [.lit (.bool true)], args := [d1, d2, d3] }
  | _ => none }
def stanzaJoinsRow : OpenClaim := { program := "ytekplcjgmnahmaadoor", sum := "3006b8b11d1db50fb194308f932dc96d8b8732b3ee9bd7d6f0c952349e8a2cf7", func := "keelson/keelsonlaw5.StanzaJoins", spec := "stanzaJoins", inPlace := ["internal/bytealg.CountString", "internal/bytealg.IndexByteString", "internal/bytealg.IndexString"], unfollowed := true, recurses := true, named := ["unicode/utf8.first", "unicode/utf8.acceptRanges", "internal/bytealg.MaxLen"], apart := false, laid := [("unicode/utf8.acceptRanges", laid_unicode_utf8_acceptRanges), ("unicode/utf8.first", laid_unicode_utf8_first)] }
def StanzaJoinsSaid : Prop := stanzaJoinsRow.holds Tryd.pinned (OpenSpec.ofChange stanzaJoinsSpec)

/-- ITS FALSE NEIGHBOUR: 'it returns false'. Refute it at one input. -/
def stanzaJoinsWrong : ChangeSpec := { name := "stanzaJoins", fn := fun _ => fun
  | [d1, d2, d3] => { results := [.lit (.bool false)], args := [d1, d2, d3] }
  | _ => none }
def StanzaJoinsWrongFalsely : Prop := stanzaJoinsRow.holds Tryd.pinned (OpenSpec.ofChange stanzaJoinsWrong)

/-- 'keelsonlaw5.StanzaPuts': WHATEVER THE INPUT: true; the input reads as it did. -/
def stanzaPutsSpec : ChangeSpec := { name := "stanzaPuts", fn := fun _ => fun
  | [d1, d2, d3, d4] => { results := [.lit (.bool true)], args := [d1, d2, d3, d4] }
  | _ => none }
def stanzaPutsRow : OpenClaim := { program := "ytekplcjgmnahmaadoor", sum := "3006b8b11d1db50fb194308f932dc96d8b8732b3ee9bd7d6f0c952349e8a2cf7", func := "keelson/keelsonlaw5.StanzaPuts", spec := "stanzaPuts", inPlace := ["internal/bytealg.CountString", "internal/bytealg.IndexByteString", "internal/bytealg.IndexString"], unfollowed := true, recurses := true, named := ["unicode/utf8.first", "unicode/utf8.acceptRanges", "internal/bytealg.MaxLen"], apart := false, laid := [("unicode/utf8.acceptRanges", laid_unicode_utf8_acceptRanges), ("unicode/utf8.first", laid_unicode_utf8_first)] }
def StanzaPutsSaid : Prop := stanzaPutsRow.holds Tryd.pinned (OpenSpec.ofChange stanzaPutsSpec)

/-- ITS FALSE NEIGHBOUR: 'it returns false'. Refute it at one input. -/
def stanzaPutsWrong : ChangeSpec := { name := "stanzaPuts", fn := fun _ => fun
  | [d1, d2, d3, d4] => { results := [.lit (.bool false)], args := [d1, d2, d3, d4] }
  | _ => none }
def StanzaPutsWrongFalsely : Prop := stanzaPutsRow.holds Tryd.pinned (OpenSpec.ofChange stanzaPutsWrong)

/-- 'keelsonlaw5.StanzaFields': WHATEVER THE INPUT: true; the input reads as it did. -/
def stanzaFieldsSpec : ChangeSpec := { name := "stanzaFields", fn := fun _ => fun
  | [d1, d2, d3, d4] => { results := [.lit (.bool true)], args := [d1, d2, d3, d4] }
  | _ => none }
def stanzaFieldsRow : OpenClaim := { program := "ytekplcjgmnahmaadoor", sum := "3006b8b11d1db50fb194308f932dc96d8b8732b3ee9bd7d6f0c952349e8a2cf7", func := "keelson/keelsonlaw5.StanzaFields", spec := "stanzaFields", inPlace := ["internal/bytealg.CountString", "internal/bytealg.IndexByteString", "internal/bytealg.IndexString"], unfollowed := true, recurses := true, named := ["unicode/utf8.first", "unicode/utf8.acceptRanges", "internal/bytealg.MaxLen"], apart := false, laid := [("unicode/utf8.acceptRanges", laid_unicode_utf8_acceptRanges), ("unicode/utf8.first", laid_unicode_utf8_first)] }
def StanzaFieldsSaid : Prop := stanzaFieldsRow.holds Tryd.pinned (OpenSpec.ofChange stanzaFieldsSpec)

/-- ITS FALSE NEIGHBOUR: 'it returns false'. Refute it at one input. -/
def stanzaFieldsWrong : ChangeSpec := { name := "stanzaFields", fn := fun _ => fun
  | [d1, d2, d3, d4] => { results := [.lit (.bool false)], args := [d1, d2, d3, d4] }
  | _ => none }
def StanzaFieldsWrongFalsely : Prop := stanzaFieldsRow.holds Tryd.pinned (OpenSpec.ofChange stanzaFieldsWrong)

/-- 'keelsonlaw5.StanzaOnly': WHATEVER THE INPUT: true; the input reads as it did. -/
def stanzaOnlySpec : ChangeSpec := { name := "stanzaOnly", fn := fun _ => fun
  | [d1, d2, d3] => { results := [.lit (.bool true)], args := [d1, d2, d3] }
  | _ => none }
def stanzaOnlyRow : OpenClaim := { program := "ytekplcjgmnahmaadoor", sum := "3006b8b11d1db50fb194308f932dc96d8b8732b3ee9bd7d6f0c952349e8a2cf7", func := "keelson/keelsonlaw5.StanzaOnly", spec := "stanzaOnly", inPlace := ["internal/bytealg.CountString", "internal/bytealg.IndexByteString", "internal/bytealg.IndexString"], unfollowed := true, recurses := true, named := ["unicode/utf8.first", "unicode/utf8.acceptRanges", "internal/bytealg.MaxLen"], apart := false, laid := [("unicode/utf8.acceptRanges", laid_unicode_utf8_acceptRanges), ("unicode/utf8.first", laid_unicode_utf8_first)] }
def StanzaOnlySaid : Prop := stanzaOnlyRow.holds Tryd.pinned (OpenSpec.ofChange stanzaOnlySpec)

/-- ITS FALSE NEIGHBOUR: 'it returns false'. Refute it at one input. -/
def stanzaOnlyWrong : ChangeSpec := { name := "stanzaOnly", fn := fun _ => fun
  | [d1, d2, d3] => { results := [.lit (.bool false)], args := [d1, d2, d3] }
  | _ => none }
def StanzaOnlyWrongFalsely : Prop := stanzaOnlyRow.holds Tryd.pinned (OpenSpec.ofChange stanzaOnlyWrong)

/-- 'keelsonlaw5.StanzaPrints': WHATEVER THE INPUT: true; the input reads as it did. -/
def stanzaPrintsSpec : ChangeSpec := { name := "stanzaPrints", fn := fun _ => fun
  | [d1, d2] => { results := [.lit (.bool true)], args := [d1, d2] }
  | _ => none }
def stanzaPrintsRow : OpenClaim := { program := "ytekplcjgmnahmaadoor", sum := "3006b8b11d1db50fb194308f932dc96d8b8732b3ee9bd7d6f0c952349e8a2cf7", func := "keelson/keelsonlaw5.StanzaPrints", spec := "stanzaPrints", inPlace := ["internal/bytealg.CountString", "internal/bytealg.IndexByteString", "internal/bytealg.IndexString", "internal/abi.NoEscape", "internal/bytealg.MakeNoZero"], unfollowed := true, recurses := true, named := ["unicode/utf8.first", "unicode/utf8.acceptRanges", "internal/bytealg.MaxLen"], apart := false, laid := [("unicode/utf8.acceptRanges", laid_unicode_utf8_acceptRanges), ("unicode/utf8.first", laid_unicode_utf8_first)] }
def StanzaPrintsSaid : Prop := stanzaPrintsRow.holds Tryd.pinned (OpenSpec.ofChange stanzaPrintsSpec)

/-- ITS FALSE NEIGHBOUR: 'it returns false'. Refute it at one input. -/
def stanzaPrintsWrong : ChangeSpec := { name := "stanzaPrints", fn := fun _ => fun
  | [d1, d2] => { results := [.lit (.bool false)], args := [d1, d2] }
  | _ => none }
def StanzaPrintsWrongFalsely : Prop := stanzaPrintsRow.holds Tryd.pinned (OpenSpec.ofChange stanzaPrintsWrong)

/- THE SECOND FORM. 'bulk': how many values and letters a reading holds, each counted each time it is reached (what is shared counts as often as it is met; a slice's spare places count too). A statement '..UptoSaid' is the law's where the arguments, and the package variables that the reading takes, are together of bulk at most 1048576: NARROWER than '..Said'. Prove '..Said' where nothing that the law and all that it calls make is longer than what came in: it says more and counts as full. Else prove '..UptoSaid'. A law counts once. -/
mutual
def uptoBulk {H : Type} : DataW H → Nat
  | .lit (.string bytes) => bytes.length + 1
  | .lit _ => 1
  | .nil => 1
  | .ptr d => uptoBulk d + 1
  | .slice elems spare => uptoBulkAll elems + uptoBulkAll spare + 1
  | .agg parts => uptoBulkAll parts + 1
  | .iface _ d => uptoBulk d + 1
  | .map entries => uptoBulkEntries entries + 1
  | .held _ => 1
def uptoBulkAll {H : Type} : List (DataW H) → Nat
  | [] => 0
  | d :: r => uptoBulk d + uptoBulkAll r
def uptoBulkEntries {H : Type} : List (Lit × DataW H) → Nat
  | [] => 0
  | x :: r => uptoBulkEntry x + uptoBulkEntries r
def uptoBulkEntry {H : Type} : Lit × DataW H → Nat
  | (.string bytes, d) => bytes.length + uptoBulk d + 1
  | (_, d) => uptoBulk d + 1
 end
def uptoSmall : (H : Type) → List (DataW H) → Bool := fun _ ds => decide (uptoBulkAll ds ≤ 1048576)
def OpenSpec.upto (s : _root_.Go.ChangeSpec) : _root_.Go.OpenSpec := { _root_.Go.OpenSpec.ofChange s with cond := some uptoSmall }

/-- 'keelsonlaw5.StanzaParses', WHERE WHAT IT READS IS OF BULK AT MOST 1048576: true; the input reads as it did. -/
def stanzaParsesUptoRow : OpenClaim := { program := "ytekplcjgmnahmaadoor", sum := "3006b8b11d1db50fb194308f932dc96d8b8732b3ee9bd7d6f0c952349e8a2cf7", func := "keelson/keelsonlaw5.StanzaParses", spec := "stanzaParses", inPlace := ["internal/bytealg.CountString", "internal/bytealg.IndexByteString", "internal/bytealg.IndexString"], unfollowed := true, recurses := true, named := ["unicode/utf8.first", "unicode/utf8.acceptRanges", "internal/bytealg.MaxLen"], apart := false, laid := [("unicode/utf8.acceptRanges", laid_unicode_utf8_acceptRanges), ("unicode/utf8.first", laid_unicode_utf8_first)], narrowed := true }
def StanzaParsesUptoSaid : Prop := stanzaParsesUptoRow.holds Tryd.pinned (OpenSpec.upto stanzaParsesSpec)

/-- 'keelsonlaw5.StanzaJoins', WHERE WHAT IT READS IS OF BULK AT MOST 1048576: true; the input reads as it did. -/
def stanzaJoinsUptoRow : OpenClaim := { program := "ytekplcjgmnahmaadoor", sum := "3006b8b11d1db50fb194308f932dc96d8b8732b3ee9bd7d6f0c952349e8a2cf7", func := "keelson/keelsonlaw5.StanzaJoins", spec := "stanzaJoins", inPlace := ["internal/bytealg.CountString", "internal/bytealg.IndexByteString", "internal/bytealg.IndexString"], unfollowed := true, recurses := true, named := ["unicode/utf8.first", "unicode/utf8.acceptRanges", "internal/bytealg.MaxLen"], apart := false, laid := [("unicode/utf8.acceptRanges", laid_unicode_utf8_acceptRanges), ("unicode/utf8.first", laid_unicode_utf8_first)], narrowed := true }
def StanzaJoinsUptoSaid : Prop := stanzaJoinsUptoRow.holds Tryd.pinned (OpenSpec.upto stanzaJoinsSpec)

/-- 'keelsonlaw5.StanzaPuts', WHERE WHAT IT READS IS OF BULK AT MOST 1048576: true; the input reads as it did. -/
def stanzaPutsUptoRow : OpenClaim := { program := "ytekplcjgmnahmaadoor", sum := "3006b8b11d1db50fb194308f932dc96d8b8732b3ee9bd7d6f0c952349e8a2cf7", func := "keelson/keelsonlaw5.StanzaPuts", spec := "stanzaPuts", inPlace := ["internal/bytealg.CountString", "internal/bytealg.IndexByteString", "internal/bytealg.IndexString"], unfollowed := true, recurses := true, named := ["unicode/utf8.first", "unicode/utf8.acceptRanges", "internal/bytealg.MaxLen"], apart := false, laid := [("unicode/utf8.acceptRanges", laid_unicode_utf8_acceptRanges), ("unicode/utf8.first", laid_unicode_utf8_first)], narrowed := true }
def StanzaPutsUptoSaid : Prop := stanzaPutsUptoRow.holds Tryd.pinned (OpenSpec.upto stanzaPutsSpec)

/-- 'keelsonlaw5.StanzaFields', WHERE WHAT IT READS IS OF BULK AT MOST 1048576: true; the input reads as it did. -/
def stanzaFieldsUptoRow : OpenClaim := { program := "ytekplcjgmnahmaadoor", sum := "3006b8b11d1db50fb194308f932dc96d8b8732b3ee9bd7d6f0c952349e8a2cf7", func := "keelson/keelsonlaw5.StanzaFields", spec := "stanzaFields", inPlace := ["internal/bytealg.CountString", "internal/bytealg.IndexByteString", "internal/bytealg.IndexString"], unfollowed := true, recurses := true, named := ["unicode/utf8.first", "unicode/utf8.acceptRanges", "internal/bytealg.MaxLen"], apart := false, laid := [("unicode/utf8.acceptRanges", laid_unicode_utf8_acceptRanges), ("unicode/utf8.first", laid_unicode_utf8_first)], narrowed := true }
def StanzaFieldsUptoSaid : Prop := stanzaFieldsUptoRow.holds Tryd.pinned (OpenSpec.upto stanzaFieldsSpec)

/-- 'keelsonlaw5.StanzaOnly', WHERE WHAT IT READS IS OF BULK AT MOST 1048576: true; the input reads as it did. -/
def stanzaOnlyUptoRow : OpenClaim := { program := "ytekplcjgmnahmaadoor", sum := "3006b8b11d1db50fb194308f932dc96d8b8732b3ee9bd7d6f0c952349e8a2cf7", func := "keelson/keelsonlaw5.StanzaOnly", spec := "stanzaOnly", inPlace := ["internal/bytealg.CountString", "internal/bytealg.IndexByteString", "internal/bytealg.IndexString"], unfollowed := true, recurses := true, named := ["unicode/utf8.first", "unicode/utf8.acceptRanges", "internal/bytealg.MaxLen"], apart := false, laid := [("unicode/utf8.acceptRanges", laid_unicode_utf8_acceptRanges), ("unicode/utf8.first", laid_unicode_utf8_first)], narrowed := true }
def StanzaOnlyUptoSaid : Prop := stanzaOnlyUptoRow.holds Tryd.pinned (OpenSpec.upto stanzaOnlySpec)

/-- 'keelsonlaw5.StanzaPrints', WHERE WHAT IT READS IS OF BULK AT MOST 1048576: true; the input reads as it did. -/
def stanzaPrintsUptoRow : OpenClaim := { program := "ytekplcjgmnahmaadoor", sum := "3006b8b11d1db50fb194308f932dc96d8b8732b3ee9bd7d6f0c952349e8a2cf7", func := "keelson/keelsonlaw5.StanzaPrints", spec := "stanzaPrints", inPlace := ["internal/bytealg.CountString", "internal/bytealg.IndexByteString", "internal/bytealg.IndexString", "internal/abi.NoEscape", "internal/bytealg.MakeNoZero"], unfollowed := true, recurses := true, named := ["unicode/utf8.first", "unicode/utf8.acceptRanges", "internal/bytealg.MaxLen"], apart := false, laid := [("unicode/utf8.acceptRanges", laid_unicode_utf8_acceptRanges), ("unicode/utf8.first", laid_unicode_utf8_first)], narrowed := true }
def StanzaPrintsUptoSaid : Prop := stanzaPrintsUptoRow.holds Tryd.pinned (OpenSpec.upto stanzaPrintsSpec)

end Rows
end Go.Proofs.YtekplcjgmnahmaaDoor
