/-
  DERIVED. GIVEN WITH THE SEED: THE CARDS: each row of YtgebkpchpliahaaGreatDoorRows.lean that lists a variable, with what it lists TIED to the program's text (the seventh form; the later family's looks); each row that meets fmt, with fmt's text TOLD by the authors' own Lean function (tested against real Go, not proved from fmt's source: count such statements apart). THE CARD IS WHAT COUNTS. Prove the row's statement (the work); the ties are given (YtgebkpchpliahaaGreatDoorTie.lean); close each card by the builder's one call (the guide's Derived/Test/ToyasCard.lean, 'card_holds'). Laid BY PROGRAM, IN A SANDBOX (cutbox-door.mjs). By AI agents, Wed Nov 11 2026. No macro, syntax, notation, axiom, sorry.
-/
import Derived.Test.YtgebkpchpliahaaGreatDoorRows
import GoSem.ClaimSeven
namespace Go.Proofs.YtgebkpchpliahaaGreatDoor
namespace Rows

/-- THE TIED CARD OF 'roadbooklaw12.RunCount'. -/
def runCountCard : Claim7 := { stood := { row := runCountRow, standIns := [], harness := (true, "03e846287e32e368a15fd01bd9b24ee967bf80212e6ecd887e4c280104ba7b74"), looks := true }, kinds := [], alts := [], laidByText := true, laidKinds := [.data, .data, .data], laidTests := true, laidLooks := .later }
def RunCountCardSaid : Prop := Claim7.holds Tryz.pinned (.plain (OpenSpec.ofChange runCountSpec)) runCountCard

/-- THE TIED CARD OF 'roadbooklaw07.MeansMore'. -/
def meansMoreCard : Claim7 := { stood := { row := meansMoreRow, standIns := [], harness := (true, "03e846287e32e368a15fd01bd9b24ee967bf80212e6ecd887e4c280104ba7b74"), looks := true }, kinds := [], alts := [], laidByText := true, laidKinds := [.data, .data, .data], laidTests := true, laidLooks := .later }
def MeansMoreCardSaid : Prop := Claim7.holds Tryz.pinned (.plain (OpenSpec.ofChange meansMoreSpec)) meansMoreCard

/-- THE TIED CARD OF 'roadbooklaw12.RunOrder'. -/
def runOrderCard : Claim7 := { stood := { row := runOrderRow, standIns := [], harness := (true, "03e846287e32e368a15fd01bd9b24ee967bf80212e6ecd887e4c280104ba7b74"), looks := true }, kinds := [], alts := [], laidByText := true, laidKinds := [.data, .data, .data], laidTests := true, laidLooks := .later }
def RunOrderCardSaid : Prop := Claim7.holds Tryz.pinned (.plain (OpenSpec.ofChange runOrderSpec)) runOrderCard

/-- THE TIED CARD OF 'roadbooklaw07.MeansTells'. -/
def meansTellsCard : Claim7 := { stood := { row := meansTellsRow, standIns := [], harness := (true, "03e846287e32e368a15fd01bd9b24ee967bf80212e6ecd887e4c280104ba7b74"), looks := true }, kinds := [], alts := [], laidByText := true, laidKinds := [.data, .data, .data], laidTests := true, laidLooks := .later }
def MeansTellsCardSaid : Prop := Claim7.holds Tryz.pinned (.plain (OpenSpec.ofChange meansTellsSpec)) meansTellsCard

/-- THE TIED CARD OF 'roadbooklaw07.MeansTurned'. -/
def meansTurnedCard : Claim7 := { stood := { row := meansTurnedRow, standIns := [], harness := (true, "03e846287e32e368a15fd01bd9b24ee967bf80212e6ecd887e4c280104ba7b74"), looks := true }, kinds := [], alts := [], laidByText := true, laidKinds := [.data, .data, .data], laidTests := true, laidLooks := .later }
def MeansTurnedCardSaid : Prop := Claim7.holds Tryz.pinned (.plain (OpenSpec.ofChange meansTurnedSpec)) meansTurnedCard

/-- THE TIED CARD OF 'roadbooklaw07.MeansCols'. -/
def meansColsCard : Claim7 := { stood := { row := meansColsRow, standIns := [], harness := (true, "03e846287e32e368a15fd01bd9b24ee967bf80212e6ecd887e4c280104ba7b74"), looks := true }, kinds := [], alts := [], laidByText := true, laidKinds := [.data, .data, .data], laidTests := true, laidLooks := .later }
def MeansColsCardSaid : Prop := Claim7.holds Tryz.pinned (.plain (OpenSpec.ofChange meansColsSpec)) meansColsCard

/-- THE TIED CARD OF 'roadbooklaw07.MeansFinish'. -/
def meansFinishCard : Claim7 := { stood := { row := meansFinishRow, standIns := [], harness := (true, "03e846287e32e368a15fd01bd9b24ee967bf80212e6ecd887e4c280104ba7b74"), looks := true }, kinds := [], alts := [], laidByText := true, laidKinds := [.data, .data, .data], laidTests := true, laidLooks := .later }
def MeansFinishCardSaid : Prop := Claim7.holds Tryz.pinned (.plain (OpenSpec.ofChange meansFinishSpec)) meansFinishCard

/-- THE TIED CARD OF 'roadbooklaw07.MeansTrees'. -/
def meansTreesCard : Claim7 := { stood := { row := meansTreesRow, standIns := [], harness := (true, "03e846287e32e368a15fd01bd9b24ee967bf80212e6ecd887e4c280104ba7b74"), looks := true }, kinds := [], alts := [], laidByText := true, laidKinds := [.data, .data, .data], laidTests := true, laidLooks := .later }
def MeansTreesCardSaid : Prop := Claim7.holds Tryz.pinned (.plain (OpenSpec.ofChange meansTreesSpec)) meansTreesCard

/-- THE TIED CARD OF 'roadbooklaw12.RunSame'. -/
def runSameCard : Claim7 := { stood := { row := runSameRow, standIns := [], harness := (true, "03e846287e32e368a15fd01bd9b24ee967bf80212e6ecd887e4c280104ba7b74"), looks := true }, kinds := [], alts := [], laidByText := true, laidKinds := [.data, .data, .data], laidTests := true, laidLooks := .later }
def RunSameCardSaid : Prop := Claim7.holds Tryz.pinned (.plain (OpenSpec.ofChange runSameSpec)) runSameCard

/-- THE TIED CARD OF 'roadbooklaw12.RunRight'. -/
def runRightCard : Claim7 := { stood := { row := runRightRow, standIns := [], harness := (true, "03e846287e32e368a15fd01bd9b24ee967bf80212e6ecd887e4c280104ba7b74"), looks := true }, kinds := [], alts := [], laidByText := true, laidKinds := [.data, .data, .data], laidTests := true, laidLooks := .later }
def RunRightCardSaid : Prop := Claim7.holds Tryz.pinned (.plain (OpenSpec.ofChange runRightSpec)) runRightCard

/-- THE SECOND FORM's CARD OF 'roadbooklaw12.RunCount'. -/
def runCountUptoCard : Claim7 := { stood := { row := runCountUptoRow, standIns := [], harness := (true, "03e846287e32e368a15fd01bd9b24ee967bf80212e6ecd887e4c280104ba7b74"), looks := true }, kinds := [], alts := [], laidByText := true, laidKinds := [.data, .data, .data], laidTests := true, laidLooks := .later }
def RunCountUptoCardSaid : Prop := Claim7.holds Tryz.pinned (.plain (OpenSpec.upto runCountSpec)) runCountUptoCard

/-- THE SECOND FORM's CARD OF 'roadbooklaw07.MeansMore'. -/
def meansMoreUptoCard : Claim7 := { stood := { row := meansMoreUptoRow, standIns := [], harness := (true, "03e846287e32e368a15fd01bd9b24ee967bf80212e6ecd887e4c280104ba7b74"), looks := true }, kinds := [], alts := [], laidByText := true, laidKinds := [.data, .data, .data], laidTests := true, laidLooks := .later }
def MeansMoreUptoCardSaid : Prop := Claim7.holds Tryz.pinned (.plain (OpenSpec.upto meansMoreSpec)) meansMoreUptoCard

/-- THE SECOND FORM's CARD OF 'roadbooklaw12.RunOrder'. -/
def runOrderUptoCard : Claim7 := { stood := { row := runOrderUptoRow, standIns := [], harness := (true, "03e846287e32e368a15fd01bd9b24ee967bf80212e6ecd887e4c280104ba7b74"), looks := true }, kinds := [], alts := [], laidByText := true, laidKinds := [.data, .data, .data], laidTests := true, laidLooks := .later }
def RunOrderUptoCardSaid : Prop := Claim7.holds Tryz.pinned (.plain (OpenSpec.upto runOrderSpec)) runOrderUptoCard

/-- THE SECOND FORM's CARD OF 'roadbooklaw07.MeansTells'. -/
def meansTellsUptoCard : Claim7 := { stood := { row := meansTellsUptoRow, standIns := [], harness := (true, "03e846287e32e368a15fd01bd9b24ee967bf80212e6ecd887e4c280104ba7b74"), looks := true }, kinds := [], alts := [], laidByText := true, laidKinds := [.data, .data, .data], laidTests := true, laidLooks := .later }
def MeansTellsUptoCardSaid : Prop := Claim7.holds Tryz.pinned (.plain (OpenSpec.upto meansTellsSpec)) meansTellsUptoCard

/-- THE SECOND FORM's CARD OF 'roadbooklaw07.MeansTurned'. -/
def meansTurnedUptoCard : Claim7 := { stood := { row := meansTurnedUptoRow, standIns := [], harness := (true, "03e846287e32e368a15fd01bd9b24ee967bf80212e6ecd887e4c280104ba7b74"), looks := true }, kinds := [], alts := [], laidByText := true, laidKinds := [.data, .data, .data], laidTests := true, laidLooks := .later }
def MeansTurnedUptoCardSaid : Prop := Claim7.holds Tryz.pinned (.plain (OpenSpec.upto meansTurnedSpec)) meansTurnedUptoCard

/-- THE SECOND FORM's CARD OF 'roadbooklaw07.MeansCols'. -/
def meansColsUptoCard : Claim7 := { stood := { row := meansColsUptoRow, standIns := [], harness := (true, "03e846287e32e368a15fd01bd9b24ee967bf80212e6ecd887e4c280104ba7b74"), looks := true }, kinds := [], alts := [], laidByText := true, laidKinds := [.data, .data, .data], laidTests := true, laidLooks := .later }
def MeansColsUptoCardSaid : Prop := Claim7.holds Tryz.pinned (.plain (OpenSpec.upto meansColsSpec)) meansColsUptoCard

/-- THE SECOND FORM's CARD OF 'roadbooklaw07.MeansFinish'. -/
def meansFinishUptoCard : Claim7 := { stood := { row := meansFinishUptoRow, standIns := [], harness := (true, "03e846287e32e368a15fd01bd9b24ee967bf80212e6ecd887e4c280104ba7b74"), looks := true }, kinds := [], alts := [], laidByText := true, laidKinds := [.data, .data, .data], laidTests := true, laidLooks := .later }
def MeansFinishUptoCardSaid : Prop := Claim7.holds Tryz.pinned (.plain (OpenSpec.upto meansFinishSpec)) meansFinishUptoCard

/-- THE SECOND FORM's CARD OF 'roadbooklaw07.MeansTrees'. -/
def meansTreesUptoCard : Claim7 := { stood := { row := meansTreesUptoRow, standIns := [], harness := (true, "03e846287e32e368a15fd01bd9b24ee967bf80212e6ecd887e4c280104ba7b74"), looks := true }, kinds := [], alts := [], laidByText := true, laidKinds := [.data, .data, .data], laidTests := true, laidLooks := .later }
def MeansTreesUptoCardSaid : Prop := Claim7.holds Tryz.pinned (.plain (OpenSpec.upto meansTreesSpec)) meansTreesUptoCard

/-- THE SECOND FORM's CARD OF 'roadbooklaw12.RunSame'. -/
def runSameUptoCard : Claim7 := { stood := { row := runSameUptoRow, standIns := [], harness := (true, "03e846287e32e368a15fd01bd9b24ee967bf80212e6ecd887e4c280104ba7b74"), looks := true }, kinds := [], alts := [], laidByText := true, laidKinds := [.data, .data, .data], laidTests := true, laidLooks := .later }
def RunSameUptoCardSaid : Prop := Claim7.holds Tryz.pinned (.plain (OpenSpec.upto runSameSpec)) runSameUptoCard

/-- THE SECOND FORM's CARD OF 'roadbooklaw12.RunRight'. -/
def runRightUptoCard : Claim7 := { stood := { row := runRightUptoRow, standIns := [], harness := (true, "03e846287e32e368a15fd01bd9b24ee967bf80212e6ecd887e4c280104ba7b74"), looks := true }, kinds := [], alts := [], laidByText := true, laidKinds := [.data, .data, .data], laidTests := true, laidLooks := .later }
def RunRightUptoCardSaid : Prop := Claim7.holds Tryz.pinned (.plain (OpenSpec.upto runRightSpec)) runRightUptoCard
end Rows
end Go.Proofs.YtgebkpchpliahaaGreatDoor
