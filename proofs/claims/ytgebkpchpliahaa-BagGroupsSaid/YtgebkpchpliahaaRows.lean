/-
  No cell of these rows narrows 'for every input' (looked for: loops, veiled, ifaces, maps, wideKeys, modest, calm, conditions, laid).
  DERIVED. THE GIVEN ROWS OF THIS SEAT. 5 by the template 'for every input the law returns true; each argument reads behind the call as it read before'; 0 by the template 'total and deterministic' (their statements: YtgebkpchpliahaaTotals.lean).
  GIVEN WITH THE SEED: the statements are not yours to turn. If you find one false, say at which input.
  Laid BY PROGRAM, IN A SANDBOX (cutbox-rows.mjs): the forced cells as the released guide's own fill.sh prints them over the translation 6eb3cd099eab4aa6… (all of the seat's roots in one cut). By AI agents, Wed Nov 11 2026. No macro, syntax, notation, axiom, sorry.
-/
import Derived.Test.YtgebkpchpliahaaChecked
import GoSem.Claim
import GoSem.ClaimJoined
import GoSem.ClaimMapViews
import Derived.JoinedTies
import Derived.KernelRfl
namespace Go.Proofs.Ytgebkpchpliahaa
/- THE CELL 'sum', in the pinned program and in every row, IS THE sha256 OF THE DUMP (.gsa) THAT YtgebkpchpliahaaProg.lean LOADS. Nothing in Lean hashes anything: it is a label: what it is worth is what the hold of that sum in a sandbox is worth. -/
noncomputable def Try.pinned : Pinned := { name := "ytgebkpchpliahaa", sum := "6eb3cd099eab4aa6957cac14d0d6486dd393d1372e7d0f813d4861c371c70edd", checked := Try.checked }
namespace Rows
def none {H : Type} : Left H := { results := [], args := [] }

/-- 'roadbooklaw04.DataLess': WHATEVER THE INPUT: true; the input reads as it did. -/
def dataLessSpec : ChangeSpec := { name := "dataLess", fn := fun _ => fun
  | [d1, d2, d3, d4] => { results := [.lit (.bool true)], args := [d1, d2, d3, d4] }
  | _ => none }
def dataLessRow : OpenClaim := { program := "ytgebkpchpliahaa", sum := "6eb3cd099eab4aa6957cac14d0d6486dd393d1372e7d0f813d4861c371c70edd", func := "roadbook/roadbooklaw04.DataLess", spec := "dataLess", unfollowed := true, recurses := true, plainKeys := false, apart := false }
def DataLessSaid : Prop := dataLessRow.holds Try.pinned (OpenSpec.ofChange dataLessSpec)

/-- ITS FALSE NEIGHBOUR: 'it returns false'. Refute it at one input. -/
def dataLessWrong : ChangeSpec := { name := "dataLess", fn := fun _ => fun
  | [d1, d2, d3, d4] => { results := [.lit (.bool false)], args := [d1, d2, d3, d4] }
  | _ => none }
def DataLessWrongFalsely : Prop := dataLessRow.holds Try.pinned (OpenSpec.ofChange dataLessWrong)

/-- 'roadbooklaw04.DataCols': WHATEVER THE INPUT: true; the input reads as it did. -/
def dataColsSpec : ChangeSpec := { name := "dataCols", fn := fun _ => fun
  | [d1, d2, d3] => { results := [.lit (.bool true)], args := [d1, d2, d3] }
  | _ => none }
def dataColsRow : OpenClaim := { program := "ytgebkpchpliahaa", sum := "6eb3cd099eab4aa6957cac14d0d6486dd393d1372e7d0f813d4861c371c70edd", func := "roadbook/roadbooklaw04.DataCols", spec := "dataCols", unfollowed := true, recurses := true, plainKeys := false, apart := false }
def DataColsSaid : Prop := dataColsRow.holds Try.pinned (OpenSpec.ofChange dataColsSpec)

/-- ITS FALSE NEIGHBOUR: 'it returns false'. Refute it at one input. -/
def dataColsWrong : ChangeSpec := { name := "dataCols", fn := fun _ => fun
  | [d1, d2, d3] => { results := [.lit (.bool false)], args := [d1, d2, d3] }
  | _ => none }
def DataColsWrongFalsely : Prop := dataColsRow.holds Try.pinned (OpenSpec.ofChange dataColsWrong)

/-- 'roadbooklaw04.DataTells': WHATEVER THE INPUT: true; the input reads as it did. -/
def dataTellsSpec : ChangeSpec := { name := "dataTells", fn := fun _ => fun
  | [d1, d2, d3, d4, d5] => { results := [.lit (.bool true)], args := [d1, d2, d3, d4, d5] }
  | _ => none }
def dataTellsRow : OpenClaim := { program := "ytgebkpchpliahaa", sum := "6eb3cd099eab4aa6957cac14d0d6486dd393d1372e7d0f813d4861c371c70edd", func := "roadbook/roadbooklaw04.DataTells", spec := "dataTells", unfollowed := true, recurses := true, plainKeys := false, apart := false }
def DataTellsSaid : Prop := dataTellsRow.holds Try.pinned (OpenSpec.ofChange dataTellsSpec)

/-- ITS FALSE NEIGHBOUR: 'it returns false'. Refute it at one input. -/
def dataTellsWrong : ChangeSpec := { name := "dataTells", fn := fun _ => fun
  | [d1, d2, d3, d4, d5] => { results := [.lit (.bool false)], args := [d1, d2, d3, d4, d5] }
  | _ => none }
def DataTellsWrongFalsely : Prop := dataTellsRow.holds Try.pinned (OpenSpec.ofChange dataTellsWrong)

/-- 'roadbooklaw04.DataOf': WHATEVER THE INPUT: true; the input reads as it did. -/
def dataOfSpec : ChangeSpec := { name := "dataOf", fn := fun _ => fun
  | [d1, d2, d3, d4, d5] => { results := [.lit (.bool true)], args := [d1, d2, d3, d4, d5] }
  | _ => none }
def dataOfRow : OpenClaim := { program := "ytgebkpchpliahaa", sum := "6eb3cd099eab4aa6957cac14d0d6486dd393d1372e7d0f813d4861c371c70edd", func := "roadbook/roadbooklaw04.DataOf", spec := "dataOf", unfollowed := true, recurses := true, plainKeys := false, apart := false }
def DataOfSaid : Prop := dataOfRow.holds Try.pinned (OpenSpec.ofChange dataOfSpec)

/-- ITS FALSE NEIGHBOUR: 'it returns false'. Refute it at one input. -/
def dataOfWrong : ChangeSpec := { name := "dataOf", fn := fun _ => fun
  | [d1, d2, d3, d4, d5] => { results := [.lit (.bool false)], args := [d1, d2, d3, d4, d5] }
  | _ => none }
def DataOfWrongFalsely : Prop := dataOfRow.holds Try.pinned (OpenSpec.ofChange dataOfWrong)

/-- 'roadbooklaw03.BagGroups': WHATEVER THE INPUT: true; the input reads as it did. -/
def bagGroupsSpec : ChangeSpec := { name := "bagGroups", fn := fun _ => fun
  | [d1, d2, d3] => { results := [.lit (.bool true)], args := [d1, d2, d3] }
  | _ => none }
def bagGroupsRow : OpenClaim := { program := "ytgebkpchpliahaa", sum := "6eb3cd099eab4aa6957cac14d0d6486dd393d1372e7d0f813d4861c371c70edd", func := "roadbook/roadbooklaw03.BagGroups", spec := "bagGroups", inPlace := ["math/bits.Add64"], unfollowed := true, recurses := true, plainKeys := false, apart := false }
def BagGroupsSaid : Prop := bagGroupsRow.holds Try.pinned (OpenSpec.ofChange bagGroupsSpec)

/-- ITS FALSE NEIGHBOUR: 'it returns false'. Refute it at one input. -/
def bagGroupsWrong : ChangeSpec := { name := "bagGroups", fn := fun _ => fun
  | [d1, d2, d3] => { results := [.lit (.bool false)], args := [d1, d2, d3] }
  | _ => none }
def BagGroupsWrongFalsely : Prop := bagGroupsRow.holds Try.pinned (OpenSpec.ofChange bagGroupsWrong)

/- THE SECOND FORM. 'bulk': how many values and letters a reading holds, each counted each time it is reached (what is shared counts as often as it is met; a slice's spare places count too). A statement '..UptoSaid' is the law's where the arguments, and the package variables that the reading takes, are together of bulk at most 1048576: NARROWER than '..Said'. Prove '..Said' where nothing that the law and all that it calls make is longer than what came in: it says more and counts as full. Else prove '..UptoSaid'. A law counts once. -/
mutual
def uptoBulk {H : Type} : DataW H → Nat
  | .lit (.string bytes) => bytes.length + 1
  | .lit _ => 1
  | .nil => 1
  | .ptr d => uptoBulk d + 1
  | .slice elems spare => uptoBulkAll elems + uptoBulkAll spare + 1
  | .agg parts => uptoBulkAll parts + 1
  | .iface _ d => uptoBulk d + 1
  | .map entries => uptoBulkEntries entries + 1
  | .held _ => 1
def uptoBulkAll {H : Type} : List (DataW H) → Nat
  | [] => 0
  | d :: r => uptoBulk d + uptoBulkAll r
def uptoBulkEntries {H : Type} : List (Lit × DataW H) → Nat
  | [] => 0
  | x :: r => uptoBulkEntry x + uptoBulkEntries r
def uptoBulkEntry {H : Type} : Lit × DataW H → Nat
  | (.string bytes, d) => bytes.length + uptoBulk d + 1
  | (_, d) => uptoBulk d + 1
 end
def uptoSmall : (H : Type) → List (DataW H) → Bool := fun _ ds => decide (uptoBulkAll ds ≤ 1048576)
def OpenSpec.upto (s : _root_.Go.ChangeSpec) : _root_.Go.OpenSpec := { _root_.Go.OpenSpec.ofChange s with cond := some uptoSmall }

/-- 'roadbooklaw04.DataLess', WHERE WHAT IT READS IS OF BULK AT MOST 1048576: true; the input reads as it did. -/
def dataLessUptoRow : OpenClaim := { program := "ytgebkpchpliahaa", sum := "6eb3cd099eab4aa6957cac14d0d6486dd393d1372e7d0f813d4861c371c70edd", func := "roadbook/roadbooklaw04.DataLess", spec := "dataLess", unfollowed := true, recurses := true, plainKeys := false, apart := false, narrowed := true }
def DataLessUptoSaid : Prop := dataLessUptoRow.holds Try.pinned (OpenSpec.upto dataLessSpec)

/-- 'roadbooklaw04.DataCols', WHERE WHAT IT READS IS OF BULK AT MOST 1048576: true; the input reads as it did. -/
def dataColsUptoRow : OpenClaim := { program := "ytgebkpchpliahaa", sum := "6eb3cd099eab4aa6957cac14d0d6486dd393d1372e7d0f813d4861c371c70edd", func := "roadbook/roadbooklaw04.DataCols", spec := "dataCols", unfollowed := true, recurses := true, plainKeys := false, apart := false, narrowed := true }
def DataColsUptoSaid : Prop := dataColsUptoRow.holds Try.pinned (OpenSpec.upto dataColsSpec)

/-- 'roadbooklaw04.DataTells', WHERE WHAT IT READS IS OF BULK AT MOST 1048576: true; the input reads as it did. -/
def dataTellsUptoRow : OpenClaim := { program := "ytgebkpchpliahaa", sum := "6eb3cd099eab4aa6957cac14d0d6486dd393d1372e7d0f813d4861c371c70edd", func := "roadbook/roadbooklaw04.DataTells", spec := "dataTells", unfollowed := true, recurses := true, plainKeys := false, apart := false, narrowed := true }
def DataTellsUptoSaid : Prop := dataTellsUptoRow.holds Try.pinned (OpenSpec.upto dataTellsSpec)

/-- 'roadbooklaw04.DataOf', WHERE WHAT IT READS IS OF BULK AT MOST 1048576: true; the input reads as it did. -/
def dataOfUptoRow : OpenClaim := { program := "ytgebkpchpliahaa", sum := "6eb3cd099eab4aa6957cac14d0d6486dd393d1372e7d0f813d4861c371c70edd", func := "roadbook/roadbooklaw04.DataOf", spec := "dataOf", unfollowed := true, recurses := true, plainKeys := false, apart := false, narrowed := true }
def DataOfUptoSaid : Prop := dataOfUptoRow.holds Try.pinned (OpenSpec.upto dataOfSpec)

/-- 'roadbooklaw03.BagGroups', WHERE WHAT IT READS IS OF BULK AT MOST 1048576: true; the input reads as it did. -/
def bagGroupsUptoRow : OpenClaim := { program := "ytgebkpchpliahaa", sum := "6eb3cd099eab4aa6957cac14d0d6486dd393d1372e7d0f813d4861c371c70edd", func := "roadbook/roadbooklaw03.BagGroups", spec := "bagGroups", inPlace := ["math/bits.Add64"], unfollowed := true, recurses := true, plainKeys := false, apart := false, narrowed := true }
def BagGroupsUptoSaid : Prop := bagGroupsUptoRow.holds Try.pinned (OpenSpec.upto bagGroupsSpec)

end Rows
end Go.Proofs.Ytgebkpchpliahaa
