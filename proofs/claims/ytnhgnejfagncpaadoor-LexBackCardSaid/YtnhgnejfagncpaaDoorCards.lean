/-
  DERIVED. GIVEN WITH THE SEED: THE CARDS: each row of YtnhgnejfagncpaaDoorRows.lean that lists a variable, with what it lists TIED to the program's text (the seventh form; the later family's looks); each row that meets fmt, with fmt's text TOLD by the authors' own Lean function (tested against real Go, not proved from fmt's source: count such statements apart). THE CARD IS WHAT COUNTS. Prove the row's statement (the work); the ties are given (YtnhgnejfagncpaaDoorTie.lean); close each card by the builder's one call (the guide's Derived/Test/ToyasCard.lean, 'card_holds'). Laid BY PROGRAM, IN A SANDBOX (cutbox-door.mjs). By AI agents, Wed Nov 11 2026. No macro, syntax, notation, axiom, sorry.
-/
import Derived.Test.YtnhgnejfagncpaaDoorRows
import GoSem.ClaimSeven
namespace Go.Proofs.YtnhgnejfagncpaaDoor
namespace Rows

/-- THE TIED CARD OF 'erasurelaw14.LexReads'. -/
def lexReadsCard : Claim7 := { stood := { row := lexReadsRow, standIns := [], harness := (true, "03e4abfff5544733e17bdd216a162f0937e656e4be8b9542fc2da20ff9f370ec"), looks := false }, kinds := [], alts := [], laidByText := true, laidKinds := [.data, .data, .data, .data, .pinned], laidTests := true, laidLooks := .later }
def LexReadsCardSaid : Prop := Claim7.holds Tryd.pinned (.plain (OpenSpec.ofChange lexReadsSpec)) lexReadsCard

/-- THE TIED CARD OF 'erasurelaw14.LexPrints'. -/
def lexPrintsCard : Claim7 := { stood := { row := lexPrintsRow, standIns := [], harness := (true, "03e4abfff5544733e17bdd216a162f0937e656e4be8b9542fc2da20ff9f370ec"), looks := false }, kinds := [], alts := [], laidByText := true, laidKinds := [.data, .data, .data, .data, .pinned], laidTests := true, laidLooks := .later }
def LexPrintsCardSaid : Prop := Claim7.holds Tryd.pinned (.plain (OpenSpec.ofChange lexPrintsSpec)) lexPrintsCard

/-- THE TIED CARD OF 'erasurelaw14.LexBack'. -/
def lexBackCard : Claim7 := { stood := { row := lexBackRow, standIns := [], harness := (true, "03e4abfff5544733e17bdd216a162f0937e656e4be8b9542fc2da20ff9f370ec"), looks := false }, kinds := [], alts := [], laidByText := true, laidKinds := [.data, .data, .data, .data, .pinned], laidTests := true, laidLooks := .later }
def LexBackCardSaid : Prop := Claim7.holds Tryd.pinned (.plain (OpenSpec.ofChange lexBackSpec)) lexBackCard

/-- THE TIED CARD OF 'erasurelaw14.LexOn'. -/
def lexOnCard : Claim7 := { stood := { row := lexOnRow, standIns := [], harness := (true, "03e4abfff5544733e17bdd216a162f0937e656e4be8b9542fc2da20ff9f370ec"), looks := false }, kinds := [], alts := [], laidByText := true, laidKinds := [.data, .data, .data, .data, .pinned], laidTests := true, laidLooks := .later }
def LexOnCardSaid : Prop := Claim7.holds Tryd.pinned (.plain (OpenSpec.ofChange lexOnSpec)) lexOnCard

/-- THE TIED CARD OF 'erasurelaw14.LexNumbers'. -/
def lexNumbersCard : Claim7 := { stood := { row := lexNumbersRow, standIns := [], harness := (true, "03e4abfff5544733e17bdd216a162f0937e656e4be8b9542fc2da20ff9f370ec"), looks := false }, kinds := [], alts := [], laidByText := true, laidKinds := [.data, .data, .data, .data, .pinned], laidTests := true, laidLooks := .later }
def LexNumbersCardSaid : Prop := Claim7.holds Tryd.pinned (.plain (OpenSpec.ofChange lexNumbersSpec)) lexNumbersCard

/-- THE TIED CARD OF 'erasurelaw18.CmapUtf'. -/
def cmapUtfCard : Claim7 := { stood := { row := cmapUtfRow, standIns := [], harness := (true, "03e4abfff5544733e17bdd216a162f0937e656e4be8b9542fc2da20ff9f370ec"), looks := false }, kinds := [], alts := [], laidByText := true, laidKinds := [.data, .pinned], laidTests := true, laidLooks := .later }
def CmapUtfCardSaid : Prop := Claim7.holds Tryd.pinned (.plain (OpenSpec.ofChange cmapUtfSpec)) cmapUtfCard

/-- THE SECOND FORM's CARD OF 'erasurelaw14.LexReads'. -/
def lexReadsUptoCard : Claim7 := { stood := { row := lexReadsUptoRow, standIns := [], harness := (true, "03e4abfff5544733e17bdd216a162f0937e656e4be8b9542fc2da20ff9f370ec"), looks := false }, kinds := [], alts := [], laidByText := true, laidKinds := [.data, .data, .data, .data, .pinned], laidTests := true, laidLooks := .later }
def LexReadsUptoCardSaid : Prop := Claim7.holds Tryd.pinned (.plain (OpenSpec.upto lexReadsSpec)) lexReadsUptoCard

/-- THE SECOND FORM's CARD OF 'erasurelaw14.LexPrints'. -/
def lexPrintsUptoCard : Claim7 := { stood := { row := lexPrintsUptoRow, standIns := [], harness := (true, "03e4abfff5544733e17bdd216a162f0937e656e4be8b9542fc2da20ff9f370ec"), looks := false }, kinds := [], alts := [], laidByText := true, laidKinds := [.data, .data, .data, .data, .pinned], laidTests := true, laidLooks := .later }
def LexPrintsUptoCardSaid : Prop := Claim7.holds Tryd.pinned (.plain (OpenSpec.upto lexPrintsSpec)) lexPrintsUptoCard

/-- THE SECOND FORM's CARD OF 'erasurelaw14.LexBack'. -/
def lexBackUptoCard : Claim7 := { stood := { row := lexBackUptoRow, standIns := [], harness := (true, "03e4abfff5544733e17bdd216a162f0937e656e4be8b9542fc2da20ff9f370ec"), looks := false }, kinds := [], alts := [], laidByText := true, laidKinds := [.data, .data, .data, .data, .pinned], laidTests := true, laidLooks := .later }
def LexBackUptoCardSaid : Prop := Claim7.holds Tryd.pinned (.plain (OpenSpec.upto lexBackSpec)) lexBackUptoCard

/-- THE SECOND FORM's CARD OF 'erasurelaw14.LexOn'. -/
def lexOnUptoCard : Claim7 := { stood := { row := lexOnUptoRow, standIns := [], harness := (true, "03e4abfff5544733e17bdd216a162f0937e656e4be8b9542fc2da20ff9f370ec"), looks := false }, kinds := [], alts := [], laidByText := true, laidKinds := [.data, .data, .data, .data, .pinned], laidTests := true, laidLooks := .later }
def LexOnUptoCardSaid : Prop := Claim7.holds Tryd.pinned (.plain (OpenSpec.upto lexOnSpec)) lexOnUptoCard

/-- THE SECOND FORM's CARD OF 'erasurelaw14.LexNumbers'. -/
def lexNumbersUptoCard : Claim7 := { stood := { row := lexNumbersUptoRow, standIns := [], harness := (true, "03e4abfff5544733e17bdd216a162f0937e656e4be8b9542fc2da20ff9f370ec"), looks := false }, kinds := [], alts := [], laidByText := true, laidKinds := [.data, .data, .data, .data, .pinned], laidTests := true, laidLooks := .later }
def LexNumbersUptoCardSaid : Prop := Claim7.holds Tryd.pinned (.plain (OpenSpec.upto lexNumbersSpec)) lexNumbersUptoCard

/-- THE SECOND FORM's CARD OF 'erasurelaw18.CmapUtf'. -/
def cmapUtfUptoCard : Claim7 := { stood := { row := cmapUtfUptoRow, standIns := [], harness := (true, "03e4abfff5544733e17bdd216a162f0937e656e4be8b9542fc2da20ff9f370ec"), looks := false }, kinds := [], alts := [], laidByText := true, laidKinds := [.data, .pinned], laidTests := true, laidLooks := .later }
def CmapUtfUptoCardSaid : Prop := Claim7.holds Tryd.pinned (.plain (OpenSpec.upto cmapUtfSpec)) cmapUtfUptoCard
end Rows
end Go.Proofs.YtnhgnejfagncpaaDoor
