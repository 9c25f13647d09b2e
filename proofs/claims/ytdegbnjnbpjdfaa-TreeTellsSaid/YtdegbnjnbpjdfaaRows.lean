/-
  NARROWER THAN 'FOR EVERY INPUT', by the rows' own cells (each row's printed sentence says how): TreeTells: loops · TreeBack: loops · TreeAll: loops · TreeJoin: loops · TreeParts: loops · TreeText: loops.
  DERIVED. THE GIVEN ROWS OF THIS SEAT. 14 by the template 'for every input the law returns true; each argument reads behind the call as it read before'; 0 by the template 'total and deterministic' (their statements: YtdegbnjnbpjdfaaTotals.lean).
  GIVEN WITH THE SEED: the statements are not yours to turn. If you find one false, say at which input.
  Laid BY PROGRAM, IN A SANDBOX (cutbox-rows.mjs): the forced cells as the released guide's own fill.sh prints them over the translation 12c2e0456cc5cff8… (all of the seat's roots in one cut). By AI agents, Wed Nov 11 2026. No macro, syntax, notation, axiom, sorry.
-/
import Derived.Test.YtdegbnjnbpjdfaaChecked
import GoSem.Claim
import GoSem.ClaimJoined
import GoSem.ClaimMapViews
import Derived.JoinedTies
import Derived.KernelRfl
namespace Go.Proofs.Ytdegbnjnbpjdfaa
/- THE CELL 'sum', in the pinned program and in every row, IS THE sha256 OF THE DUMP (.gsa) THAT YtdegbnjnbpjdfaaProg.lean LOADS. Nothing in Lean hashes anything: it is a label: what it is worth is what the hold of that sum in a sandbox is worth. -/
noncomputable def Try.pinned : Pinned := { name := "ytdegbnjnbpjdfaa", sum := "12c2e0456cc5cff830b15c80b56ec3a2c21e6842b9fdf978578aa345c50744bd", checked := Try.checked }
namespace Rows
def none {H : Type} : Left H := { results := [], args := [] }

/-- 'roadbooklaw01.ValMorgan': WHATEVER THE INPUT: true; the input reads as it did. -/
def valMorganSpec : ChangeSpec := { name := "valMorgan", fn := fun _ => fun
  | [d] => { results := [.lit (.bool true)], args := [d] }
  | _ => none }
def valMorganRow : OpenClaim := { program := "ytdegbnjnbpjdfaa", sum := "12c2e0456cc5cff830b15c80b56ec3a2c21e6842b9fdf978578aa345c50744bd", func := "roadbook/roadbooklaw01.ValMorgan", spec := "valMorgan", unfollowed := true, recurses := true, apart := false }
def ValMorganSaid : Prop := valMorganRow.holds Try.pinned (OpenSpec.ofChange valMorganSpec)

/-- ITS FALSE NEIGHBOUR: 'it returns false'. Refute it at one input. -/
def valMorganWrong : ChangeSpec := { name := "valMorgan", fn := fun _ => fun
  | [d] => { results := [.lit (.bool false)], args := [d] }
  | _ => none }
def ValMorganWrongFalsely : Prop := valMorganRow.holds Try.pinned (OpenSpec.ofChange valMorganWrong)

/-- 'roadbooklaw01.ValSum': WHATEVER THE INPUT: true; the input reads as it did. -/
def valSumSpec : ChangeSpec := { name := "valSum", fn := fun _ => fun
  | [d] => { results := [.lit (.bool true)], args := [d] }
  | _ => none }
def valSumRow : OpenClaim := { program := "ytdegbnjnbpjdfaa", sum := "12c2e0456cc5cff830b15c80b56ec3a2c21e6842b9fdf978578aa345c50744bd", func := "roadbook/roadbooklaw01.ValSum", spec := "valSum", inPlace := ["math/bits.Add64"], unfollowed := true, recurses := true, apart := false }
def ValSumSaid : Prop := valSumRow.holds Try.pinned (OpenSpec.ofChange valSumSpec)

/-- ITS FALSE NEIGHBOUR: 'it returns false'. Refute it at one input. -/
def valSumWrong : ChangeSpec := { name := "valSum", fn := fun _ => fun
  | [d] => { results := [.lit (.bool false)], args := [d] }
  | _ => none }
def ValSumWrongFalsely : Prop := valSumRow.holds Try.pinned (OpenSpec.ofChange valSumWrong)

/-- 'roadbooklaw01.ValBack': WHATEVER THE INPUT: true; the input reads as it did. -/
def valBackSpec : ChangeSpec := { name := "valBack", fn := fun _ => fun
  | [d1, d2] => { results := [.lit (.bool true)], args := [d1, d2] }
  | _ => none }
def valBackRow : OpenClaim := { program := "ytdegbnjnbpjdfaa", sum := "12c2e0456cc5cff830b15c80b56ec3a2c21e6842b9fdf978578aa345c50744bd", func := "roadbook/roadbooklaw01.ValBack", spec := "valBack", unfollowed := true, recurses := true, apart := false }
def ValBackSaid : Prop := valBackRow.holds Try.pinned (OpenSpec.ofChange valBackSpec)

/-- ITS FALSE NEIGHBOUR: 'it returns false'. Refute it at one input. -/
def valBackWrong : ChangeSpec := { name := "valBack", fn := fun _ => fun
  | [d1, d2] => { results := [.lit (.bool false)], args := [d1, d2] }
  | _ => none }
def ValBackWrongFalsely : Prop := valBackRow.holds Try.pinned (OpenSpec.ofChange valBackWrong)

/-- 'roadbooklaw01.ValTurned': WHATEVER THE INPUT: true; the input reads as it did. -/
def valTurnedSpec : ChangeSpec := { name := "valTurned", fn := fun _ => fun
  | [d] => { results := [.lit (.bool true)], args := [d] }
  | _ => none }
def valTurnedRow : OpenClaim := { program := "ytdegbnjnbpjdfaa", sum := "12c2e0456cc5cff830b15c80b56ec3a2c21e6842b9fdf978578aa345c50744bd", func := "roadbook/roadbooklaw01.ValTurned", spec := "valTurned", inPlace := ["math/bits.Add64"], unfollowed := true, recurses := true, apart := false }
def ValTurnedSaid : Prop := valTurnedRow.holds Try.pinned (OpenSpec.ofChange valTurnedSpec)

/-- ITS FALSE NEIGHBOUR: 'it returns false'. Refute it at one input. -/
def valTurnedWrong : ChangeSpec := { name := "valTurned", fn := fun _ => fun
  | [d] => { results := [.lit (.bool false)], args := [d] }
  | _ => none }
def ValTurnedWrongFalsely : Prop := valTurnedRow.holds Try.pinned (OpenSpec.ofChange valTurnedWrong)

/-- 'roadbooklaw01.ValOrder': WHATEVER THE INPUT: true; the input reads as it did. -/
def valOrderSpec : ChangeSpec := { name := "valOrder", fn := fun _ => fun
  | [d1, d2, d3] => { results := [.lit (.bool true)], args := [d1, d2, d3] }
  | _ => none }
def valOrderRow : OpenClaim := { program := "ytdegbnjnbpjdfaa", sum := "12c2e0456cc5cff830b15c80b56ec3a2c21e6842b9fdf978578aa345c50744bd", func := "roadbook/roadbooklaw01.ValOrder", spec := "valOrder", unfollowed := true, recurses := true, apart := false }
def ValOrderSaid : Prop := valOrderRow.holds Try.pinned (OpenSpec.ofChange valOrderSpec)

/-- ITS FALSE NEIGHBOUR: 'it returns false'. Refute it at one input. -/
def valOrderWrong : ChangeSpec := { name := "valOrder", fn := fun _ => fun
  | [d1, d2, d3] => { results := [.lit (.bool false)], args := [d1, d2, d3] }
  | _ => none }
def ValOrderWrongFalsely : Prop := valOrderRow.holds Try.pinned (OpenSpec.ofChange valOrderWrong)

/-- 'roadbooklaw06.TreeTells': WHATEVER THE INPUT: true; the input reads as it did. -/
def treeTellsSpec : ChangeSpec := { name := "treeTells", fn := fun _ => fun
  | [d1, d2, d3, d4] => { results := [.lit (.bool true)], args := [d1, d2, d3, d4] }
  | _ => none }
def treeTellsRow : OpenClaim := { program := "ytdegbnjnbpjdfaa", sum := "12c2e0456cc5cff830b15c80b56ec3a2c21e6842b9fdf978578aa345c50744bd", func := "roadbook/roadbooklaw06.TreeTells", spec := "treeTells", unfollowed := true, recurses := true, loops := true, apart := false }
def TreeTellsSaid : Prop := treeTellsRow.holds Try.pinned (OpenSpec.ofChange treeTellsSpec)

/-- ITS FALSE NEIGHBOUR: 'it returns false'. Refute it at one input. -/
def treeTellsWrong : ChangeSpec := { name := "treeTells", fn := fun _ => fun
  | [d1, d2, d3, d4] => { results := [.lit (.bool false)], args := [d1, d2, d3, d4] }
  | _ => none }
def TreeTellsWrongFalsely : Prop := treeTellsRow.holds Try.pinned (OpenSpec.ofChange treeTellsWrong)

/-- 'roadbooklaw06.TreeBack': WHATEVER THE INPUT: true; the input reads as it did. -/
def treeBackSpec : ChangeSpec := { name := "treeBack", fn := fun _ => fun
  | [d1, d2] => { results := [.lit (.bool true)], args := [d1, d2] }
  | _ => none }
def treeBackRow : OpenClaim := { program := "ytdegbnjnbpjdfaa", sum := "12c2e0456cc5cff830b15c80b56ec3a2c21e6842b9fdf978578aa345c50744bd", func := "roadbook/roadbooklaw06.TreeBack", spec := "treeBack", unfollowed := true, recurses := true, loops := true, apart := false }
def TreeBackSaid : Prop := treeBackRow.holds Try.pinned (OpenSpec.ofChange treeBackSpec)

/-- ITS FALSE NEIGHBOUR: 'it returns false'. Refute it at one input. -/
def treeBackWrong : ChangeSpec := { name := "treeBack", fn := fun _ => fun
  | [d1, d2] => { results := [.lit (.bool false)], args := [d1, d2] }
  | _ => none }
def TreeBackWrongFalsely : Prop := treeBackRow.holds Try.pinned (OpenSpec.ofChange treeBackWrong)

/-- 'roadbooklaw06.TreeAll': WHATEVER THE INPUT: true; the input reads as it did. -/
def treeAllSpec : ChangeSpec := { name := "treeAll", fn := fun _ => fun
  | [d1, d2] => { results := [.lit (.bool true)], args := [d1, d2] }
  | _ => none }
def treeAllRow : OpenClaim := { program := "ytdegbnjnbpjdfaa", sum := "12c2e0456cc5cff830b15c80b56ec3a2c21e6842b9fdf978578aa345c50744bd", func := "roadbook/roadbooklaw06.TreeAll", spec := "treeAll", unfollowed := true, recurses := true, loops := true, apart := false }
def TreeAllSaid : Prop := treeAllRow.holds Try.pinned (OpenSpec.ofChange treeAllSpec)

/-- ITS FALSE NEIGHBOUR: 'it returns false'. Refute it at one input. -/
def treeAllWrong : ChangeSpec := { name := "treeAll", fn := fun _ => fun
  | [d1, d2] => { results := [.lit (.bool false)], args := [d1, d2] }
  | _ => none }
def TreeAllWrongFalsely : Prop := treeAllRow.holds Try.pinned (OpenSpec.ofChange treeAllWrong)

/-- 'roadbooklaw06.TreeJoin': WHATEVER THE INPUT: true; the input reads as it did. -/
def treeJoinSpec : ChangeSpec := { name := "treeJoin", fn := fun _ => fun
  | [d1, d2] => { results := [.lit (.bool true)], args := [d1, d2] }
  | _ => none }
def treeJoinRow : OpenClaim := { program := "ytdegbnjnbpjdfaa", sum := "12c2e0456cc5cff830b15c80b56ec3a2c21e6842b9fdf978578aa345c50744bd", func := "roadbook/roadbooklaw06.TreeJoin", spec := "treeJoin", unfollowed := true, recurses := true, loops := true, apart := false }
def TreeJoinSaid : Prop := treeJoinRow.holds Try.pinned (OpenSpec.ofChange treeJoinSpec)

/-- ITS FALSE NEIGHBOUR: 'it returns false'. Refute it at one input. -/
def treeJoinWrong : ChangeSpec := { name := "treeJoin", fn := fun _ => fun
  | [d1, d2] => { results := [.lit (.bool false)], args := [d1, d2] }
  | _ => none }
def TreeJoinWrongFalsely : Prop := treeJoinRow.holds Try.pinned (OpenSpec.ofChange treeJoinWrong)

/-- 'roadbooklaw06.TreeParts': WHATEVER THE INPUT: true; the input reads as it did. -/
def treePartsSpec : ChangeSpec := { name := "treeParts", fn := fun _ => fun
  | [d] => { results := [.lit (.bool true)], args := [d] }
  | _ => none }
def treePartsRow : OpenClaim := { program := "ytdegbnjnbpjdfaa", sum := "12c2e0456cc5cff830b15c80b56ec3a2c21e6842b9fdf978578aa345c50744bd", func := "roadbook/roadbooklaw06.TreeParts", spec := "treeParts", unfollowed := true, recurses := true, loops := true, apart := false }
def TreePartsSaid : Prop := treePartsRow.holds Try.pinned (OpenSpec.ofChange treePartsSpec)

/-- ITS FALSE NEIGHBOUR: 'it returns false'. Refute it at one input. -/
def treePartsWrong : ChangeSpec := { name := "treeParts", fn := fun _ => fun
  | [d] => { results := [.lit (.bool false)], args := [d] }
  | _ => none }
def TreePartsWrongFalsely : Prop := treePartsRow.holds Try.pinned (OpenSpec.ofChange treePartsWrong)

/-- 'roadbooklaw06.TreeText': WHATEVER THE INPUT: true; the input reads as it did. -/
def treeTextSpec : ChangeSpec := { name := "treeText", fn := fun _ => fun
  | [d1, d2] => { results := [.lit (.bool true)], args := [d1, d2] }
  | _ => none }
def treeTextRow : OpenClaim := { program := "ytdegbnjnbpjdfaa", sum := "12c2e0456cc5cff830b15c80b56ec3a2c21e6842b9fdf978578aa345c50744bd", func := "roadbook/roadbooklaw06.TreeText", spec := "treeText", unfollowed := true, recurses := true, loops := true, apart := false }
def TreeTextSaid : Prop := treeTextRow.holds Try.pinned (OpenSpec.ofChange treeTextSpec)

/-- ITS FALSE NEIGHBOUR: 'it returns false'. Refute it at one input. -/
def treeTextWrong : ChangeSpec := { name := "treeText", fn := fun _ => fun
  | [d1, d2] => { results := [.lit (.bool false)], args := [d1, d2] }
  | _ => none }
def TreeTextWrongFalsely : Prop := treeTextRow.holds Try.pinned (OpenSpec.ofChange treeTextWrong)

/-- 'roadbooklaw01.ValThree': WHATEVER THE INPUT: true; the input reads as it did. -/
def valThreeSpec : ChangeSpec := { name := "valThree", fn := fun _ => fun
  | [d1, d2] => { results := [.lit (.bool true)], args := [d1, d2] }
  | _ => none }
def valThreeRow : OpenClaim := { program := "ytdegbnjnbpjdfaa", sum := "12c2e0456cc5cff830b15c80b56ec3a2c21e6842b9fdf978578aa345c50744bd", func := "roadbook/roadbooklaw01.ValThree", spec := "valThree", inPlace := ["math/bits.Add64"], unfollowed := true, recurses := true, apart := false }
def ValThreeSaid : Prop := valThreeRow.holds Try.pinned (OpenSpec.ofChange valThreeSpec)

/-- ITS FALSE NEIGHBOUR: 'it returns false'. Refute it at one input. -/
def valThreeWrong : ChangeSpec := { name := "valThree", fn := fun _ => fun
  | [d1, d2] => { results := [.lit (.bool false)], args := [d1, d2] }
  | _ => none }
def ValThreeWrongFalsely : Prop := valThreeRow.holds Try.pinned (OpenSpec.ofChange valThreeWrong)

/-- 'roadbooklaw01.ValFew': WHATEVER THE INPUT: true; the input reads as it did. -/
def valFewSpec : ChangeSpec := { name := "valFew", fn := fun _ => fun
  | [d1, d2] => { results := [.lit (.bool true)], args := [d1, d2] }
  | _ => none }
def valFewRow : OpenClaim := { program := "ytdegbnjnbpjdfaa", sum := "12c2e0456cc5cff830b15c80b56ec3a2c21e6842b9fdf978578aa345c50744bd", func := "roadbook/roadbooklaw01.ValFew", spec := "valFew", unfollowed := true, recurses := true, apart := false }
def ValFewSaid : Prop := valFewRow.holds Try.pinned (OpenSpec.ofChange valFewSpec)

/-- ITS FALSE NEIGHBOUR: 'it returns false'. Refute it at one input. -/
def valFewWrong : ChangeSpec := { name := "valFew", fn := fun _ => fun
  | [d1, d2] => { results := [.lit (.bool false)], args := [d1, d2] }
  | _ => none }
def ValFewWrongFalsely : Prop := valFewRow.holds Try.pinned (OpenSpec.ofChange valFewWrong)

/-- 'roadbooklaw01.ValReckons': WHATEVER THE INPUT: true; the input reads as it did. -/
def valReckonsSpec : ChangeSpec := { name := "valReckons", fn := fun _ => fun
  | [d1, d2] => { results := [.lit (.bool true)], args := [d1, d2] }
  | _ => none }
def valReckonsRow : OpenClaim := { program := "ytdegbnjnbpjdfaa", sum := "12c2e0456cc5cff830b15c80b56ec3a2c21e6842b9fdf978578aa345c50744bd", func := "roadbook/roadbooklaw01.ValReckons", spec := "valReckons", unfollowed := true, recurses := true, apart := false }
def ValReckonsSaid : Prop := valReckonsRow.holds Try.pinned (OpenSpec.ofChange valReckonsSpec)

/-- ITS FALSE NEIGHBOUR: 'it returns false'. Refute it at one input. -/
def valReckonsWrong : ChangeSpec := { name := "valReckons", fn := fun _ => fun
  | [d1, d2] => { results := [.lit (.bool false)], args := [d1, d2] }
  | _ => none }
def ValReckonsWrongFalsely : Prop := valReckonsRow.holds Try.pinned (OpenSpec.ofChange valReckonsWrong)

/- THE SECOND FORM. 'bulk': how many values and letters a reading holds, each counted each time it is reached (what is shared counts as often as it is met; a slice's spare places count too). A statement '..UptoSaid' is the law's where the arguments, and the package variables that the reading takes, are together of bulk at most 1048576: NARROWER than '..Said'. Prove '..Said' where nothing that the law and all that it calls make is longer than what came in: it says more and counts as full. Else prove '..UptoSaid'. A law counts once. -/
mutual
def uptoBulk {H : Type} : DataW H → Nat
  | .lit (.string bytes) => bytes.length + 1
  | .lit _ => 1
  | .nil => 1
  | .ptr d => uptoBulk d + 1
  | .slice elems spare => uptoBulkAll elems + uptoBulkAll spare + 1
  | .agg parts => uptoBulkAll parts + 1
  | .iface _ d => uptoBulk d + 1
  | .map entries => uptoBulkEntries entries + 1
  | .held _ => 1
def uptoBulkAll {H : Type} : List (DataW H) → Nat
  | [] => 0
  | d :: r => uptoBulk d + uptoBulkAll r
def uptoBulkEntries {H : Type} : List (Lit × DataW H) → Nat
  | [] => 0
  | x :: r => uptoBulkEntry x + uptoBulkEntries r
def uptoBulkEntry {H : Type} : Lit × DataW H → Nat
  | (.string bytes, d) => bytes.length + uptoBulk d + 1
  | (_, d) => uptoBulk d + 1
 end
def uptoSmall : (H : Type) → List (DataW H) → Bool := fun _ ds => decide (uptoBulkAll ds ≤ 1048576)
def OpenSpec.upto (s : _root_.Go.ChangeSpec) : _root_.Go.OpenSpec := { _root_.Go.OpenSpec.ofChange s with cond := some uptoSmall }

/-- 'roadbooklaw01.ValMorgan', WHERE WHAT IT READS IS OF BULK AT MOST 1048576: true; the input reads as it did. -/
def valMorganUptoRow : OpenClaim := { program := "ytdegbnjnbpjdfaa", sum := "12c2e0456cc5cff830b15c80b56ec3a2c21e6842b9fdf978578aa345c50744bd", func := "roadbook/roadbooklaw01.ValMorgan", spec := "valMorgan", unfollowed := true, recurses := true, apart := false, narrowed := true }
def ValMorganUptoSaid : Prop := valMorganUptoRow.holds Try.pinned (OpenSpec.upto valMorganSpec)

/-- 'roadbooklaw01.ValSum', WHERE WHAT IT READS IS OF BULK AT MOST 1048576: true; the input reads as it did. -/
def valSumUptoRow : OpenClaim := { program := "ytdegbnjnbpjdfaa", sum := "12c2e0456cc5cff830b15c80b56ec3a2c21e6842b9fdf978578aa345c50744bd", func := "roadbook/roadbooklaw01.ValSum", spec := "valSum", inPlace := ["math/bits.Add64"], unfollowed := true, recurses := true, apart := false, narrowed := true }
def ValSumUptoSaid : Prop := valSumUptoRow.holds Try.pinned (OpenSpec.upto valSumSpec)

/-- 'roadbooklaw01.ValBack', WHERE WHAT IT READS IS OF BULK AT MOST 1048576: true; the input reads as it did. -/
def valBackUptoRow : OpenClaim := { program := "ytdegbnjnbpjdfaa", sum := "12c2e0456cc5cff830b15c80b56ec3a2c21e6842b9fdf978578aa345c50744bd", func := "roadbook/roadbooklaw01.ValBack", spec := "valBack", unfollowed := true, recurses := true, apart := false, narrowed := true }
def ValBackUptoSaid : Prop := valBackUptoRow.holds Try.pinned (OpenSpec.upto valBackSpec)

/-- 'roadbooklaw01.ValTurned', WHERE WHAT IT READS IS OF BULK AT MOST 1048576: true; the input reads as it did. -/
def valTurnedUptoRow : OpenClaim := { program := "ytdegbnjnbpjdfaa", sum := "12c2e0456cc5cff830b15c80b56ec3a2c21e6842b9fdf978578aa345c50744bd", func := "roadbook/roadbooklaw01.ValTurned", spec := "valTurned", inPlace := ["math/bits.Add64"], unfollowed := true, recurses := true, apart := false, narrowed := true }
def ValTurnedUptoSaid : Prop := valTurnedUptoRow.holds Try.pinned (OpenSpec.upto valTurnedSpec)

/-- 'roadbooklaw01.ValOrder', WHERE WHAT IT READS IS OF BULK AT MOST 1048576: true; the input reads as it did. -/
def valOrderUptoRow : OpenClaim := { program := "ytdegbnjnbpjdfaa", sum := "12c2e0456cc5cff830b15c80b56ec3a2c21e6842b9fdf978578aa345c50744bd", func := "roadbook/roadbooklaw01.ValOrder", spec := "valOrder", unfollowed := true, recurses := true, apart := false, narrowed := true }
def ValOrderUptoSaid : Prop := valOrderUptoRow.holds Try.pinned (OpenSpec.upto valOrderSpec)

/-- 'roadbooklaw06.TreeTells', WHERE WHAT IT READS IS OF BULK AT MOST 1048576: true; the input reads as it did. -/
def treeTellsUptoRow : OpenClaim := { program := "ytdegbnjnbpjdfaa", sum := "12c2e0456cc5cff830b15c80b56ec3a2c21e6842b9fdf978578aa345c50744bd", func := "roadbook/roadbooklaw06.TreeTells", spec := "treeTells", unfollowed := true, recurses := true, loops := true, apart := false, narrowed := true }
def TreeTellsUptoSaid : Prop := treeTellsUptoRow.holds Try.pinned (OpenSpec.upto treeTellsSpec)

/-- 'roadbooklaw06.TreeBack', WHERE WHAT IT READS IS OF BULK AT MOST 1048576: true; the input reads as it did. -/
def treeBackUptoRow : OpenClaim := { program := "ytdegbnjnbpjdfaa", sum := "12c2e0456cc5cff830b15c80b56ec3a2c21e6842b9fdf978578aa345c50744bd", func := "roadbook/roadbooklaw06.TreeBack", spec := "treeBack", unfollowed := true, recurses := true, loops := true, apart := false, narrowed := true }
def TreeBackUptoSaid : Prop := treeBackUptoRow.holds Try.pinned (OpenSpec.upto treeBackSpec)

/-- 'roadbooklaw06.TreeAll', WHERE WHAT IT READS IS OF BULK AT MOST 1048576: true; the input reads as it did. -/
def treeAllUptoRow : OpenClaim := { program := "ytdegbnjnbpjdfaa", sum := "12c2e0456cc5cff830b15c80b56ec3a2c21e6842b9fdf978578aa345c50744bd", func := "roadbook/roadbooklaw06.TreeAll", spec := "treeAll", unfollowed := true, recurses := true, loops := true, apart := false, narrowed := true }
def TreeAllUptoSaid : Prop := treeAllUptoRow.holds Try.pinned (OpenSpec.upto treeAllSpec)

/-- 'roadbooklaw06.TreeJoin', WHERE WHAT IT READS IS OF BULK AT MOST 1048576: true; the input reads as it did. -/
def treeJoinUptoRow : OpenClaim := { program := "ytdegbnjnbpjdfaa", sum := "12c2e0456cc5cff830b15c80b56ec3a2c21e6842b9fdf978578aa345c50744bd", func := "roadbook/roadbooklaw06.TreeJoin", spec := "treeJoin", unfollowed := true, recurses := true, loops := true, apart := false, narrowed := true }
def TreeJoinUptoSaid : Prop := treeJoinUptoRow.holds Try.pinned (OpenSpec.upto treeJoinSpec)

/-- 'roadbooklaw06.TreeParts', WHERE WHAT IT READS IS OF BULK AT MOST 1048576: true; the input reads as it did. -/
def treePartsUptoRow : OpenClaim := { program := "ytdegbnjnbpjdfaa", sum := "12c2e0456cc5cff830b15c80b56ec3a2c21e6842b9fdf978578aa345c50744bd", func := "roadbook/roadbooklaw06.TreeParts", spec := "treeParts", unfollowed := true, recurses := true, loops := true, apart := false, narrowed := true }
def TreePartsUptoSaid : Prop := treePartsUptoRow.holds Try.pinned (OpenSpec.upto treePartsSpec)

/-- 'roadbooklaw06.TreeText', WHERE WHAT IT READS IS OF BULK AT MOST 1048576: true; the input reads as it did. -/
def treeTextUptoRow : OpenClaim := { program := "ytdegbnjnbpjdfaa", sum := "12c2e0456cc5cff830b15c80b56ec3a2c21e6842b9fdf978578aa345c50744bd", func := "roadbook/roadbooklaw06.TreeText", spec := "treeText", unfollowed := true, recurses := true, loops := true, apart := false, narrowed := true }
def TreeTextUptoSaid : Prop := treeTextUptoRow.holds Try.pinned (OpenSpec.upto treeTextSpec)

/-- 'roadbooklaw01.ValThree', WHERE WHAT IT READS IS OF BULK AT MOST 1048576: true; the input reads as it did. -/
def valThreeUptoRow : OpenClaim := { program := "ytdegbnjnbpjdfaa", sum := "12c2e0456cc5cff830b15c80b56ec3a2c21e6842b9fdf978578aa345c50744bd", func := "roadbook/roadbooklaw01.ValThree", spec := "valThree", inPlace := ["math/bits.Add64"], unfollowed := true, recurses := true, apart := false, narrowed := true }
def ValThreeUptoSaid : Prop := valThreeUptoRow.holds Try.pinned (OpenSpec.upto valThreeSpec)

/-- 'roadbooklaw01.ValFew', WHERE WHAT IT READS IS OF BULK AT MOST 1048576: true; the input reads as it did. -/
def valFewUptoRow : OpenClaim := { program := "ytdegbnjnbpjdfaa", sum := "12c2e0456cc5cff830b15c80b56ec3a2c21e6842b9fdf978578aa345c50744bd", func := "roadbook/roadbooklaw01.ValFew", spec := "valFew", unfollowed := true, recurses := true, apart := false, narrowed := true }
def ValFewUptoSaid : Prop := valFewUptoRow.holds Try.pinned (OpenSpec.upto valFewSpec)

/-- 'roadbooklaw01.ValReckons', WHERE WHAT IT READS IS OF BULK AT MOST 1048576: true; the input reads as it did. -/
def valReckonsUptoRow : OpenClaim := { program := "ytdegbnjnbpjdfaa", sum := "12c2e0456cc5cff830b15c80b56ec3a2c21e6842b9fdf978578aa345c50744bd", func := "roadbook/roadbooklaw01.ValReckons", spec := "valReckons", unfollowed := true, recurses := true, apart := false, narrowed := true }
def ValReckonsUptoSaid : Prop := valReckonsUptoRow.holds Try.pinned (OpenSpec.upto valReckonsSpec)

end Rows
end Go.Proofs.Ytdegbnjnbpjdfaa
