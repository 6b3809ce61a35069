/-
  DERIVED. GIVEN WITH THE SEED: THE CARDS: each row of YtffgicppidgcpaaDoorRows.lean that lists a variable, with what it lists TIED to the program's text (the seventh form; the later family's looks); each row that meets fmt, with fmt's text TOLD by the authors' own Lean function (tested against real Go, not proved from fmt's source: count such statements apart). THE CARD IS WHAT COUNTS. Prove the row's statement (the work); the ties are given (YtffgicppidgcpaaDoorTie.lean); close each card by the builder's one call (the guide's Derived/Test/ToyasCard.lean, 'card_holds'). Laid BY PROGRAM, IN A SANDBOX (cutbox-door.mjs). By AI agents, Wed Nov 11 2026. No macro, syntax, notation, axiom, sorry.
-/
import Derived.Test.YtffgicppidgcpaaDoorRows
import GoSem.ClaimSeven
namespace Go.Proofs.YtffgicppidgcpaaDoor
namespace Rows

/-- THE TIED CARD OF 'vergerlaw03.PhasorPrints'. -/
def phasorPrintsCard : Claim7 := { stood := { row := phasorPrintsRow, standIns := [], harness := (true, "b249d1a74364c929a28833263eca3ecf3ad02ba7807894c36df5a260ba24f85a"), looks := true }, kinds := [], alts := [], laidByText := true, laidKinds := [.data, .data, .data, .data, .sentinel, .sentinel, .pinned], laidTests := true, laidLooks := .later }
def PhasorPrintsCardSaid : Prop := Claim7.holds Tryd.pinned (.plain (OpenSpec.ofChange phasorPrintsSpec)) phasorPrintsCard

/-- THE TIED CARD OF 'vergerlaw03.PhasorParses'. -/
def phasorParsesCard : Claim7 := { stood := { row := phasorParsesRow, standIns := [], harness := (true, "b249d1a74364c929a28833263eca3ecf3ad02ba7807894c36df5a260ba24f85a"), looks := true }, kinds := [], alts := [], laidByText := true, laidKinds := [.data, .data, .data, .data, .sentinel, .sentinel, .pinned], laidTests := true, laidLooks := .later }
def PhasorParsesCardSaid : Prop := Claim7.holds Tryd.pinned (.plain (OpenSpec.ofChange phasorParsesSpec)) phasorParsesCard

/-- THE TIED CARD OF 'vergerlaw03.PhasorBack'. -/
def phasorBackCard : Claim7 := { stood := { row := phasorBackRow, standIns := [], harness := (true, "b249d1a74364c929a28833263eca3ecf3ad02ba7807894c36df5a260ba24f85a"), looks := true }, kinds := [], alts := [], laidByText := true, laidKinds := [.data, .data, .data, .data, .sentinel, .sentinel, .pinned], laidTests := true, laidLooks := .later }
def PhasorBackCardSaid : Prop := Claim7.holds Tryd.pinned (.plain (OpenSpec.ofChange phasorBackSpec)) phasorBackCard

/-- THE TIED CARD OF 'vergerlaw03.PhasorReckons'. -/
def phasorReckonsCard : Claim7 := { stood := { row := phasorReckonsRow, standIns := [], harness := (true, "b249d1a74364c929a28833263eca3ecf3ad02ba7807894c36df5a260ba24f85a"), looks := true }, kinds := [], alts := [], laidByText := true, laidKinds := [.data, .data, .data, .data, .sentinel, .sentinel, .pinned], laidTests := true, laidLooks := .later }
def PhasorReckonsCardSaid : Prop := Claim7.holds Tryd.pinned (.plain (OpenSpec.ofChange phasorReckonsSpec)) phasorReckonsCard

/-- THE TIED CARD OF 'vergerlaw03.PhasorWhole'. -/
def phasorWholeCard : Claim7 := { stood := { row := phasorWholeRow, standIns := [], harness := (true, "b249d1a74364c929a28833263eca3ecf3ad02ba7807894c36df5a260ba24f85a"), looks := true }, kinds := [], alts := [], laidByText := true, laidKinds := [.data, .data, .data, .data, .sentinel, .sentinel, .pinned], laidTests := true, laidLooks := .later }
def PhasorWholeCardSaid : Prop := Claim7.holds Tryd.pinned (.plain (OpenSpec.ofChange phasorWholeSpec)) phasorWholeCard

/-- THE TIED CARD OF 'vergerlaw03.PhasorCompares'. -/
def phasorComparesCard : Claim7 := { stood := { row := phasorComparesRow, standIns := [], harness := (true, "b249d1a74364c929a28833263eca3ecf3ad02ba7807894c36df5a260ba24f85a"), looks := true }, kinds := [], alts := [], laidByText := true, laidKinds := [.data, .data, .data, .data, .sentinel, .sentinel, .pinned], laidTests := true, laidLooks := .later }
def PhasorComparesCardSaid : Prop := Claim7.holds Tryd.pinned (.plain (OpenSpec.ofChange phasorComparesSpec)) phasorComparesCard

/-- THE TIED CARD OF 'vergerlaw04.RuleTypes'. -/
def ruleTypesCard : Claim7 := { stood := { row := ruleTypesRow, standIns := [], harness := (true, "b249d1a74364c929a28833263eca3ecf3ad02ba7807894c36df5a260ba24f85a"), looks := true }, kinds := [], alts := [], laidByText := true, laidKinds := [.data, .data, .data, .data, .sentinel, .sentinel, .pinned], laidTests := true, laidLooks := .later }
def RuleTypesCardSaid : Prop := Claim7.holds Tryd.pinned (.plain (OpenSpec.ofChange ruleTypesSpec)) ruleTypesCard

/-- THE SECOND FORM's CARD OF 'vergerlaw03.PhasorPrints'. -/
def phasorPrintsUptoCard : Claim7 := { stood := { row := phasorPrintsUptoRow, standIns := [], harness := (true, "b249d1a74364c929a28833263eca3ecf3ad02ba7807894c36df5a260ba24f85a"), looks := true }, kinds := [], alts := [], laidByText := true, laidKinds := [.data, .data, .data, .data, .sentinel, .sentinel, .pinned], laidTests := true, laidLooks := .later }
def PhasorPrintsUptoCardSaid : Prop := Claim7.holds Tryd.pinned (.plain (OpenSpec.upto phasorPrintsSpec)) phasorPrintsUptoCard

/-- THE SECOND FORM's CARD OF 'vergerlaw03.PhasorParses'. -/
def phasorParsesUptoCard : Claim7 := { stood := { row := phasorParsesUptoRow, standIns := [], harness := (true, "b249d1a74364c929a28833263eca3ecf3ad02ba7807894c36df5a260ba24f85a"), looks := true }, kinds := [], alts := [], laidByText := true, laidKinds := [.data, .data, .data, .data, .sentinel, .sentinel, .pinned], laidTests := true, laidLooks := .later }
def PhasorParsesUptoCardSaid : Prop := Claim7.holds Tryd.pinned (.plain (OpenSpec.upto phasorParsesSpec)) phasorParsesUptoCard

/-- THE SECOND FORM's CARD OF 'vergerlaw03.PhasorBack'. -/
def phasorBackUptoCard : Claim7 := { stood := { row := phasorBackUptoRow, standIns := [], harness := (true, "b249d1a74364c929a28833263eca3ecf3ad02ba7807894c36df5a260ba24f85a"), looks := true }, kinds := [], alts := [], laidByText := true, laidKinds := [.data, .data, .data, .data, .sentinel, .sentinel, .pinned], laidTests := true, laidLooks := .later }
def PhasorBackUptoCardSaid : Prop := Claim7.holds Tryd.pinned (.plain (OpenSpec.upto phasorBackSpec)) phasorBackUptoCard

/-- THE SECOND FORM's CARD OF 'vergerlaw03.PhasorReckons'. -/
def phasorReckonsUptoCard : Claim7 := { stood := { row := phasorReckonsUptoRow, standIns := [], harness := (true, "b249d1a74364c929a28833263eca3ecf3ad02ba7807894c36df5a260ba24f85a"), looks := true }, kinds := [], alts := [], laidByText := true, laidKinds := [.data, .data, .data, .data, .sentinel, .sentinel, .pinned], laidTests := true, laidLooks := .later }
def PhasorReckonsUptoCardSaid : Prop := Claim7.holds Tryd.pinned (.plain (OpenSpec.upto phasorReckonsSpec)) phasorReckonsUptoCard

/-- THE SECOND FORM's CARD OF 'vergerlaw03.PhasorWhole'. -/
def phasorWholeUptoCard : Claim7 := { stood := { row := phasorWholeUptoRow, standIns := [], harness := (true, "b249d1a74364c929a28833263eca3ecf3ad02ba7807894c36df5a260ba24f85a"), looks := true }, kinds := [], alts := [], laidByText := true, laidKinds := [.data, .data, .data, .data, .sentinel, .sentinel, .pinned], laidTests := true, laidLooks := .later }
def PhasorWholeUptoCardSaid : Prop := Claim7.holds Tryd.pinned (.plain (OpenSpec.upto phasorWholeSpec)) phasorWholeUptoCard

/-- THE SECOND FORM's CARD OF 'vergerlaw03.PhasorCompares'. -/
def phasorComparesUptoCard : Claim7 := { stood := { row := phasorComparesUptoRow, standIns := [], harness := (true, "b249d1a74364c929a28833263eca3ecf3ad02ba7807894c36df5a260ba24f85a"), looks := true }, kinds := [], alts := [], laidByText := true, laidKinds := [.data, .data, .data, .data, .sentinel, .sentinel, .pinned], laidTests := true, laidLooks := .later }
def PhasorComparesUptoCardSaid : Prop := Claim7.holds Tryd.pinned (.plain (OpenSpec.upto phasorComparesSpec)) phasorComparesUptoCard

/-- THE SECOND FORM's CARD OF 'vergerlaw04.RuleTypes'. -/
def ruleTypesUptoCard : Claim7 := { stood := { row := ruleTypesUptoRow, standIns := [], harness := (true, "b249d1a74364c929a28833263eca3ecf3ad02ba7807894c36df5a260ba24f85a"), looks := true }, kinds := [], alts := [], laidByText := true, laidKinds := [.data, .data, .data, .data, .sentinel, .sentinel, .pinned], laidTests := true, laidLooks := .later }
def RuleTypesUptoCardSaid : Prop := Claim7.holds Tryd.pinned (.plain (OpenSpec.upto ruleTypesSpec)) ruleTypesUptoCard
end Rows
end Go.Proofs.YtffgicppidgcpaaDoor
