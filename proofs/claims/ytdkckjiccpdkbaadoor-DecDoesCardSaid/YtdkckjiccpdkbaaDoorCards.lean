/-
  DERIVED. GIVEN WITH THE SEED: THE CARDS: each row of YtdkckjiccpdkbaaDoorRows.lean that lists a variable, with what it lists TIED to the program's text (the seventh form; the later family's looks); each row that meets fmt, with fmt's text TOLD by the authors' own Lean function (tested against real Go, not proved from fmt's source: count such statements apart). THE CARD IS WHAT COUNTS. Prove the row's statement (the work); the ties are given (YtdkckjiccpdkbaaDoorTie.lean); close each card by the builder's one call (the guide's Derived/Test/ToyasCard.lean, 'card_holds'). Laid BY PROGRAM, IN A SANDBOX (cutbox-door.mjs). By AI agents, Wed Nov 11 2026. No macro, syntax, notation, axiom, sorry.
-/
import Derived.Test.YtdkckjiccpdkbaaDoorRows
import GoSem.ClaimSeven
namespace Go.Proofs.YtdkckjiccpdkbaaDoor
namespace Rows

/-- THE TIED CARD OF 'erasurelaw01.DecBack'. -/
def decBackCard : Claim7 := { stood := { row := decBackRow, standIns := [], harness := (true, "418c171ffc8b9c5557a7cfdfa692b9510b671737619f4ad4f39866a274426471"), looks := false }, kinds := [], alts := [], laidByText := true, laidKinds := [.data, .data, .data, .data, .pinned], laidTests := true, laidLooks := .later }
def DecBackCardSaid : Prop := Claim7.holds Tryd.pinned (.plain (OpenSpec.ofChange decBackSpec)) decBackCard

/-- THE TIED CARD OF 'erasurelaw01.DecLaws'. -/
def decLawsCard : Claim7 := { stood := { row := decLawsRow, standIns := [], harness := (true, "418c171ffc8b9c5557a7cfdfa692b9510b671737619f4ad4f39866a274426471"), looks := false }, kinds := [], alts := [], laidByText := true, laidKinds := [.data, .data, .data, .data, .pinned], laidTests := true, laidLooks := .later }
def DecLawsCardSaid : Prop := Claim7.holds Tryd.pinned (.plain (OpenSpec.ofChange decLawsSpec)) decLawsCard

/-- THE TIED CARD OF 'erasurelaw01.DecReads'. -/
def decReadsCard : Claim7 := { stood := { row := decReadsRow, standIns := [], harness := (true, "418c171ffc8b9c5557a7cfdfa692b9510b671737619f4ad4f39866a274426471"), looks := false }, kinds := [], alts := [], laidByText := true, laidKinds := [.data, .data, .data, .data, .pinned], laidTests := true, laidLooks := .later }
def DecReadsCardSaid : Prop := Claim7.holds Tryd.pinned (.plain (OpenSpec.ofChange decReadsSpec)) decReadsCard

/-- THE TIED CARD OF 'erasurelaw01.DecScale'. -/
def decScaleCard : Claim7 := { stood := { row := decScaleRow, standIns := [], harness := (true, "418c171ffc8b9c5557a7cfdfa692b9510b671737619f4ad4f39866a274426471"), looks := false }, kinds := [], alts := [], laidByText := true, laidKinds := [.data, .data, .data, .data, .pinned], laidTests := true, laidLooks := .later }
def DecScaleCardSaid : Prop := Claim7.holds Tryd.pinned (.plain (OpenSpec.ofChange decScaleSpec)) decScaleCard

/-- THE TIED CARD OF 'erasurelaw01.DecDoes'. -/
def decDoesCard : Claim7 := { stood := { row := decDoesRow, standIns := [], harness := (true, "418c171ffc8b9c5557a7cfdfa692b9510b671737619f4ad4f39866a274426471"), looks := false }, kinds := [], alts := [], laidByText := true, laidKinds := [.data, .data, .data, .data, .pinned], laidTests := true, laidLooks := .later }
def DecDoesCardSaid : Prop := Claim7.holds Tryd.pinned (.plain (OpenSpec.ofChange decDoesSpec)) decDoesCard

/-- THE TIED CARD OF 'erasurelaw01.DecOrder'. -/
def decOrderCard : Claim7 := { stood := { row := decOrderRow, standIns := [], harness := (true, "418c171ffc8b9c5557a7cfdfa692b9510b671737619f4ad4f39866a274426471"), looks := false }, kinds := [], alts := [], laidByText := true, laidKinds := [.data, .data, .data, .data, .pinned], laidTests := true, laidLooks := .later }
def DecOrderCardSaid : Prop := Claim7.holds Tryd.pinned (.plain (OpenSpec.ofChange decOrderSpec)) decOrderCard

/-- THE SECOND FORM's CARD OF 'erasurelaw01.DecBack'. -/
def decBackUptoCard : Claim7 := { stood := { row := decBackUptoRow, standIns := [], harness := (true, "418c171ffc8b9c5557a7cfdfa692b9510b671737619f4ad4f39866a274426471"), looks := false }, kinds := [], alts := [], laidByText := true, laidKinds := [.data, .data, .data, .data, .pinned], laidTests := true, laidLooks := .later }
def DecBackUptoCardSaid : Prop := Claim7.holds Tryd.pinned (.plain (OpenSpec.upto decBackSpec)) decBackUptoCard

/-- THE SECOND FORM's CARD OF 'erasurelaw01.DecLaws'. -/
def decLawsUptoCard : Claim7 := { stood := { row := decLawsUptoRow, standIns := [], harness := (true, "418c171ffc8b9c5557a7cfdfa692b9510b671737619f4ad4f39866a274426471"), looks := false }, kinds := [], alts := [], laidByText := true, laidKinds := [.data, .data, .data, .data, .pinned], laidTests := true, laidLooks := .later }
def DecLawsUptoCardSaid : Prop := Claim7.holds Tryd.pinned (.plain (OpenSpec.upto decLawsSpec)) decLawsUptoCard

/-- THE SECOND FORM's CARD OF 'erasurelaw01.DecReads'. -/
def decReadsUptoCard : Claim7 := { stood := { row := decReadsUptoRow, standIns := [], harness := (true, "418c171ffc8b9c5557a7cfdfa692b9510b671737619f4ad4f39866a274426471"), looks := false }, kinds := [], alts := [], laidByText := true, laidKinds := [.data, .data, .data, .data, .pinned], laidTests := true, laidLooks := .later }
def DecReadsUptoCardSaid : Prop := Claim7.holds Tryd.pinned (.plain (OpenSpec.upto decReadsSpec)) decReadsUptoCard

/-- THE SECOND FORM's CARD OF 'erasurelaw01.DecScale'. -/
def decScaleUptoCard : Claim7 := { stood := { row := decScaleUptoRow, standIns := [], harness := (true, "418c171ffc8b9c5557a7cfdfa692b9510b671737619f4ad4f39866a274426471"), looks := false }, kinds := [], alts := [], laidByText := true, laidKinds := [.data, .data, .data, .data, .pinned], laidTests := true, laidLooks := .later }
def DecScaleUptoCardSaid : Prop := Claim7.holds Tryd.pinned (.plain (OpenSpec.upto decScaleSpec)) decScaleUptoCard

/-- THE SECOND FORM's CARD OF 'erasurelaw01.DecDoes'. -/
def decDoesUptoCard : Claim7 := { stood := { row := decDoesUptoRow, standIns := [], harness := (true, "418c171ffc8b9c5557a7cfdfa692b9510b671737619f4ad4f39866a274426471"), looks := false }, kinds := [], alts := [], laidByText := true, laidKinds := [.data, .data, .data, .data, .pinned], laidTests := true, laidLooks := .later }
def DecDoesUptoCardSaid : Prop := Claim7.holds Tryd.pinned (.plain (OpenSpec.upto decDoesSpec)) decDoesUptoCard

/-- THE SECOND FORM's CARD OF 'erasurelaw01.DecOrder'. -/
def decOrderUptoCard : Claim7 := { stood := { row := decOrderUptoRow, standIns := [], harness := (true, "418c171ffc8b9c5557a7cfdfa692b9510b671737619f4ad4f39866a274426471"), looks := false }, kinds := [], alts := [], laidByText := true, laidKinds := [.data, .data, .data, .data, .pinned], laidTests := true, laidLooks := .later }
def DecOrderUptoCardSaid : Prop := Claim7.holds Tryd.pinned (.plain (OpenSpec.upto decOrderSpec)) decOrderUptoCard
end Rows
end Go.Proofs.YtdkckjiccpdkbaaDoor
