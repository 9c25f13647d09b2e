/-
  DERIVED. GIVEN WITH THE SEED: THE CARDS: each row of YtgebkpchpliahaaDoorRows.lean that lists a variable, with what it lists TIED to the program's text (the seventh form; the later family's looks); each row that meets fmt, with fmt's text TOLD by the authors' own Lean function (tested against real Go, not proved from fmt's source: count such statements apart). THE CARD IS WHAT COUNTS. Prove the row's statement (the work); the ties are given (YtgebkpchpliahaaDoorTie.lean); close each card by the builder's one call (the guide's Derived/Test/ToyasCard.lean, 'card_holds'). Laid BY PROGRAM, IN A SANDBOX (cutbox-door.mjs). By AI agents, Wed Nov 11 2026. No macro, syntax, notation, axiom, sorry.
-/
import Derived.Test.YtgebkpchpliahaaDoorRows
import GoSem.ClaimSeven
namespace Go.Proofs.YtgebkpchpliahaaDoor
namespace Rows

/-- THE TIED CARD OF 'roadbooklaw03.BagSorts'. -/
def bagSortsCard : Claim7 := { stood := { row := bagSortsRow, standIns := [], harness := (true, "142ae206b28a6c929accc310159568096682536fa89f354042cd23377d120668"), looks := false }, kinds := [], alts := [], laidByText := true, laidKinds := [.data, .data, .data], laidTests := true, laidLooks := .later }
def BagSortsCardSaid : Prop := Claim7.holds Tryd.pinned (.plain (OpenSpec.ofChange bagSortsSpec)) bagSortsCard

/-- THE TIED CARD OF 'roadbooklaw03.BagSame'. -/
def bagSameCard : Claim7 := { stood := { row := bagSameRow, standIns := [], harness := (true, "142ae206b28a6c929accc310159568096682536fa89f354042cd23377d120668"), looks := false }, kinds := [], alts := [], laidByText := true, laidKinds := [.data, .data, .data], laidTests := true, laidLooks := .later }
def BagSameCardSaid : Prop := Claim7.holds Tryd.pinned (.plain (OpenSpec.ofChange bagSameSpec)) bagSameCard

/-- THE TIED CARD OF 'roadbooklaw03.BagCrosses'. -/
def bagCrossesCard : Claim7 := { stood := { row := bagCrossesRow, standIns := [], harness := (true, "142ae206b28a6c929accc310159568096682536fa89f354042cd23377d120668"), looks := false }, kinds := [], alts := [], laidByText := true, laidKinds := [.data, .data, .data], laidTests := true, laidLooks := .later }
def BagCrossesCardSaid : Prop := Claim7.holds Tryd.pinned (.plain (OpenSpec.ofChange bagCrossesSpec)) bagCrossesCard

/-- THE SECOND FORM's CARD OF 'roadbooklaw03.BagSorts'. -/
def bagSortsUptoCard : Claim7 := { stood := { row := bagSortsUptoRow, standIns := [], harness := (true, "142ae206b28a6c929accc310159568096682536fa89f354042cd23377d120668"), looks := false }, kinds := [], alts := [], laidByText := true, laidKinds := [.data, .data, .data], laidTests := true, laidLooks := .later }
def BagSortsUptoCardSaid : Prop := Claim7.holds Tryd.pinned (.plain (OpenSpec.upto bagSortsSpec)) bagSortsUptoCard

/-- THE SECOND FORM's CARD OF 'roadbooklaw03.BagSame'. -/
def bagSameUptoCard : Claim7 := { stood := { row := bagSameUptoRow, standIns := [], harness := (true, "142ae206b28a6c929accc310159568096682536fa89f354042cd23377d120668"), looks := false }, kinds := [], alts := [], laidByText := true, laidKinds := [.data, .data, .data], laidTests := true, laidLooks := .later }
def BagSameUptoCardSaid : Prop := Claim7.holds Tryd.pinned (.plain (OpenSpec.upto bagSameSpec)) bagSameUptoCard

/-- THE SECOND FORM's CARD OF 'roadbooklaw03.BagCrosses'. -/
def bagCrossesUptoCard : Claim7 := { stood := { row := bagCrossesUptoRow, standIns := [], harness := (true, "142ae206b28a6c929accc310159568096682536fa89f354042cd23377d120668"), looks := false }, kinds := [], alts := [], laidByText := true, laidKinds := [.data, .data, .data], laidTests := true, laidLooks := .later }
def BagCrossesUptoCardSaid : Prop := Claim7.holds Tryd.pinned (.plain (OpenSpec.upto bagCrossesSpec)) bagCrossesUptoCard
end Rows
end Go.Proofs.YtgebkpchpliahaaDoor
