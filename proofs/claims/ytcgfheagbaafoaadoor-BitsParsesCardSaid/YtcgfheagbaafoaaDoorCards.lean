/-
  DERIVED. GIVEN WITH THE SEED: THE CARDS: each row of YtcgfheagbaafoaaDoorRows.lean that lists a variable, with what it lists TIED to the program's text (the seventh form; the later family's looks); each row that meets fmt, with fmt's text TOLD by the authors' own Lean function (tested against real Go, not proved from fmt's source: count such statements apart). THE CARD IS WHAT COUNTS. Prove the row's statement (the work); the ties are given (YtcgfheagbaafoaaDoorTie.lean); close each card by the builder's one call (the guide's Derived/Test/ToyasCard.lean, 'card_holds'). Laid BY PROGRAM, IN A SANDBOX (cutbox-door.mjs). By AI agents, Wed Nov 11 2026. No macro, syntax, notation, axiom, sorry.
-/
import Derived.Test.YtcgfheagbaafoaaDoorRows
import GoSem.ClaimSeven
namespace Go.Proofs.YtcgfheagbaafoaaDoor
namespace Rows

/-- THE TIED CARD OF 'gristmilllaw02.BitsCounts'. -/
def bitsCountsCard : Claim7 := { stood := { row := bitsCountsRow, standIns := [], harness := (true, "b7bee007ffc19452214a994228c638d782dbcc8f87ffec25479e07460be2f6bb"), looks := false }, kinds := [], alts := [], laidByText := true, laidKinds := [.data], laidTests := true, laidLooks := .later }
def BitsCountsCardSaid : Prop := Claim7.holds Tryd.pinned (.plain (OpenSpec.ofChange bitsCountsSpec)) bitsCountsCard

/-- THE TIED CARD OF 'gristmilllaw02.BitsParses'. -/
def bitsParsesCard : Claim7 := { stood := { row := bitsParsesRow, standIns := [], harness := (true, "b7bee007ffc19452214a994228c638d782dbcc8f87ffec25479e07460be2f6bb"), looks := false }, kinds := [], alts := [], laidByText := true, laidKinds := [.data], laidTests := true, laidLooks := .later }
def BitsParsesCardSaid : Prop := Claim7.holds Tryd.pinned (.plain (OpenSpec.ofChange bitsParsesSpec)) bitsParsesCard

/-- THE TIED CARD OF 'gristmilllaw02.BitsRefuse'. -/
def bitsRefuseCard : Claim7 := { stood := { row := bitsRefuseRow, standIns := [], harness := (true, "b7bee007ffc19452214a994228c638d782dbcc8f87ffec25479e07460be2f6bb"), looks := false }, kinds := [], alts := [], laidByText := true, laidKinds := [.data], laidTests := true, laidLooks := .later }
def BitsRefuseCardSaid : Prop := Claim7.holds Tryd.pinned (.plain (OpenSpec.ofChange bitsRefuseSpec)) bitsRefuseCard

/-- THE TIED CARD OF 'gristmilllaw02.BitsSets'. -/
def bitsSetsCard : Claim7 := { stood := { row := bitsSetsRow, standIns := [], harness := (true, "b7bee007ffc19452214a994228c638d782dbcc8f87ffec25479e07460be2f6bb"), looks := false }, kinds := [], alts := [], laidByText := true, laidKinds := [.data], laidTests := true, laidLooks := .later }
def BitsSetsCardSaid : Prop := Claim7.holds Tryd.pinned (.plain (OpenSpec.ofChange bitsSetsSpec)) bitsSetsCard

/-- THE SECOND FORM's CARD OF 'gristmilllaw02.BitsCounts'. -/
def bitsCountsUptoCard : Claim7 := { stood := { row := bitsCountsUptoRow, standIns := [], harness := (true, "b7bee007ffc19452214a994228c638d782dbcc8f87ffec25479e07460be2f6bb"), looks := false }, kinds := [], alts := [], laidByText := true, laidKinds := [.data], laidTests := true, laidLooks := .later }
def BitsCountsUptoCardSaid : Prop := Claim7.holds Tryd.pinned (.plain (OpenSpec.upto bitsCountsSpec)) bitsCountsUptoCard

/-- THE SECOND FORM's CARD OF 'gristmilllaw02.BitsParses'. -/
def bitsParsesUptoCard : Claim7 := { stood := { row := bitsParsesUptoRow, standIns := [], harness := (true, "b7bee007ffc19452214a994228c638d782dbcc8f87ffec25479e07460be2f6bb"), looks := false }, kinds := [], alts := [], laidByText := true, laidKinds := [.data], laidTests := true, laidLooks := .later }
def BitsParsesUptoCardSaid : Prop := Claim7.holds Tryd.pinned (.plain (OpenSpec.upto bitsParsesSpec)) bitsParsesUptoCard

/-- THE SECOND FORM's CARD OF 'gristmilllaw02.BitsRefuse'. -/
def bitsRefuseUptoCard : Claim7 := { stood := { row := bitsRefuseUptoRow, standIns := [], harness := (true, "b7bee007ffc19452214a994228c638d782dbcc8f87ffec25479e07460be2f6bb"), looks := false }, kinds := [], alts := [], laidByText := true, laidKinds := [.data], laidTests := true, laidLooks := .later }
def BitsRefuseUptoCardSaid : Prop := Claim7.holds Tryd.pinned (.plain (OpenSpec.upto bitsRefuseSpec)) bitsRefuseUptoCard

/-- THE SECOND FORM's CARD OF 'gristmilllaw02.BitsSets'. -/
def bitsSetsUptoCard : Claim7 := { stood := { row := bitsSetsUptoRow, standIns := [], harness := (true, "b7bee007ffc19452214a994228c638d782dbcc8f87ffec25479e07460be2f6bb"), looks := false }, kinds := [], alts := [], laidByText := true, laidKinds := [.data], laidTests := true, laidLooks := .later }
def BitsSetsUptoCardSaid : Prop := Claim7.holds Tryd.pinned (.plain (OpenSpec.upto bitsSetsSpec)) bitsSetsUptoCard
end Rows
end Go.Proofs.YtcgfheagbaafoaaDoor
