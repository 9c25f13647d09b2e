/-
  NARROWER THAN 'FOR EVERY INPUT', by the rows' own cells (each row's printed sentence says how): RunWays: loops · BagPicks: loops · BagKeeps: loops · RunTells: loops.
  DERIVED. THE GIVEN ROWS OF THIS SEAT. 4 by the template 'for every input the law returns true; each argument reads behind the call as it read before'; 0 by the template 'total and deterministic' (their statements: YtgebkpchpliahaaGreatTotals.lean).
  GIVEN WITH THE SEED: the statements are not yours to turn. If you find one false, say at which input.
  Laid BY PROGRAM, IN A SANDBOX (cutbox-rows.mjs): the forced cells as the released guide's own fill.sh prints them over the translation 8c1365ceff8635e4… (all of the seat's roots in one cut). By AI agents, Wed Nov 11 2026. No macro, syntax, notation, axiom, sorry.
-/
import Derived.Test.YtgebkpchpliahaaGreatChecked
import GoSem.Claim
import GoSem.ClaimJoined
import GoSem.ClaimMapViews
import Derived.JoinedTies
import Derived.KernelRfl
namespace Go.Proofs.YtgebkpchpliahaaGreat
/- THE CELL 'sum', in the pinned program and in every row, IS THE sha256 OF THE DUMP (.gsa) THAT YtgebkpchpliahaaGreatProg.lean LOADS. Nothing in Lean hashes anything: it is a label: what it is worth is what the hold of that sum in a sandbox is worth. -/
noncomputable def Tryz.pinned : Pinned := { name := "ytgebkpchpliahaagreat", sum := "8c1365ceff8635e4e1ea5f84d3815a37a9a721eb8bb1c57078af1e5f0c2df657", checked := Tryz.checked }
namespace Rows
def none {H : Type} : Left H := { results := [], args := [] }

/-- 'roadbooklaw12.RunWays': WHATEVER THE INPUT: true; the input reads as it did. -/
def runWaysSpec : ChangeSpec := { name := "runWays", fn := fun _ => fun
  | [d1, d2, d3, d4] => { results := [.lit (.bool true)], args := [d1, d2, d3, d4] }
  | _ => none }
def runWaysRow : OpenClaim := { program := "ytgebkpchpliahaagreat", sum := "8c1365ceff8635e4e1ea5f84d3815a37a9a721eb8bb1c57078af1e5f0c2df657", func := "roadbook/roadbooklaw12.RunWays", spec := "runWays", unfollowed := true, recurses := true, loops := true, plainKeys := false, apart := false }
def RunWaysSaid : Prop := runWaysRow.holds Tryz.pinned (OpenSpec.ofChange runWaysSpec)

/-- ITS FALSE NEIGHBOUR: 'it returns false'. Refute it at one input. -/
def runWaysWrong : ChangeSpec := { name := "runWays", fn := fun _ => fun
  | [d1, d2, d3, d4] => { results := [.lit (.bool false)], args := [d1, d2, d3, d4] }
  | _ => none }
def RunWaysWrongFalsely : Prop := runWaysRow.holds Tryz.pinned (OpenSpec.ofChange runWaysWrong)

/-- 'roadbooklaw03.BagPicks': WHATEVER THE INPUT: true; the input reads as it did. -/
def bagPicksSpec : ChangeSpec := { name := "bagPicks", fn := fun _ => fun
  | [d1, d2, d3, d4] => { results := [.lit (.bool true)], args := [d1, d2, d3, d4] }
  | _ => none }
def bagPicksRow : OpenClaim := { program := "ytgebkpchpliahaagreat", sum := "8c1365ceff8635e4e1ea5f84d3815a37a9a721eb8bb1c57078af1e5f0c2df657", func := "roadbook/roadbooklaw03.BagPicks", spec := "bagPicks", inPlace := ["math/bits.Add64"], unfollowed := true, recurses := true, loops := true, plainKeys := false, apart := false }
def BagPicksSaid : Prop := bagPicksRow.holds Tryz.pinned (OpenSpec.ofChange bagPicksSpec)

/-- ITS FALSE NEIGHBOUR: 'it returns false'. Refute it at one input. -/
def bagPicksWrong : ChangeSpec := { name := "bagPicks", fn := fun _ => fun
  | [d1, d2, d3, d4] => { results := [.lit (.bool false)], args := [d1, d2, d3, d4] }
  | _ => none }
def BagPicksWrongFalsely : Prop := bagPicksRow.holds Tryz.pinned (OpenSpec.ofChange bagPicksWrong)

/-- 'roadbooklaw03.BagKeeps': WHATEVER THE INPUT: true; the input reads as it did. -/
def bagKeepsSpec : ChangeSpec := { name := "bagKeeps", fn := fun _ => fun
  | [d1, d2, d3, d4] => { results := [.lit (.bool true)], args := [d1, d2, d3, d4] }
  | _ => none }
def bagKeepsRow : OpenClaim := { program := "ytgebkpchpliahaagreat", sum := "8c1365ceff8635e4e1ea5f84d3815a37a9a721eb8bb1c57078af1e5f0c2df657", func := "roadbook/roadbooklaw03.BagKeeps", spec := "bagKeeps", inPlace := ["math/bits.Add64"], unfollowed := true, recurses := true, loops := true, plainKeys := false, apart := false }
def BagKeepsSaid : Prop := bagKeepsRow.holds Tryz.pinned (OpenSpec.ofChange bagKeepsSpec)

/-- ITS FALSE NEIGHBOUR: 'it returns false'. Refute it at one input. -/
def bagKeepsWrong : ChangeSpec := { name := "bagKeeps", fn := fun _ => fun
  | [d1, d2, d3, d4] => { results := [.lit (.bool false)], args := [d1, d2, d3, d4] }
  | _ => none }
def BagKeepsWrongFalsely : Prop := bagKeepsRow.holds Tryz.pinned (OpenSpec.ofChange bagKeepsWrong)

/-- 'roadbooklaw12.RunTells': WHATEVER THE INPUT: true; the input reads as it did. -/
def runTellsSpec : ChangeSpec := { name := "runTells", fn := fun _ => fun
  | [d1, d2, d3, d4, d5] => { results := [.lit (.bool true)], args := [d1, d2, d3, d4, d5] }
  | _ => none }
def runTellsRow : OpenClaim := { program := "ytgebkpchpliahaagreat", sum := "8c1365ceff8635e4e1ea5f84d3815a37a9a721eb8bb1c57078af1e5f0c2df657", func := "roadbook/roadbooklaw12.RunTells", spec := "runTells", inPlace := ["math/bits.Add64"], unfollowed := true, recurses := true, loops := true, plainKeys := false, apart := false }
def RunTellsSaid : Prop := runTellsRow.holds Tryz.pinned (OpenSpec.ofChange runTellsSpec)

/-- ITS FALSE NEIGHBOUR: 'it returns false'. Refute it at one input. -/
def runTellsWrong : ChangeSpec := { name := "runTells", fn := fun _ => fun
  | [d1, d2, d3, d4, d5] => { results := [.lit (.bool false)], args := [d1, d2, d3, d4, d5] }
  | _ => none }
def RunTellsWrongFalsely : Prop := runTellsRow.holds Tryz.pinned (OpenSpec.ofChange runTellsWrong)

/- THE SECOND FORM. 'bulk': how many values and letters a reading holds, each counted each time it is reached (what is shared counts as often as it is met; a slice's spare places count too). A statement '..UptoSaid' is the law's where the arguments, and the package variables that the reading takes, are together of bulk at most 1048576: NARROWER than '..Said'. Prove '..Said' where nothing that the law and all that it calls make is longer than what came in: it says more and counts as full. Else prove '..UptoSaid'. A law counts once. -/
mutual
def uptoBulk {H : Type} : DataW H → Nat
  | .lit (.string bytes) => bytes.length + 1
  | .lit _ => 1
  | .nil => 1
  | .ptr d => uptoBulk d + 1
  | .slice elems spare => uptoBulkAll elems + uptoBulkAll spare + 1
  | .agg parts => uptoBulkAll parts + 1
  | .iface _ d => uptoBulk d + 1
  | .map entries => uptoBulkEntries entries + 1
  | .held _ => 1
def uptoBulkAll {H : Type} : List (DataW H) → Nat
  | [] => 0
  | d :: r => uptoBulk d + uptoBulkAll r
def uptoBulkEntries {H : Type} : List (Lit × DataW H) → Nat
  | [] => 0
  | x :: r => uptoBulkEntry x + uptoBulkEntries r
def uptoBulkEntry {H : Type} : Lit × DataW H → Nat
  | (.string bytes, d) => bytes.length + uptoBulk d + 1
  | (_, d) => uptoBulk d + 1
 end
def uptoSmall : (H : Type) → List (DataW H) → Bool := fun _ ds => decide (uptoBulkAll ds ≤ 1048576)
def OpenSpec.upto (s : _root_.Go.ChangeSpec) : _root_.Go.OpenSpec := { _root_.Go.OpenSpec.ofChange s with cond := some uptoSmall }

/-- 'roadbooklaw12.RunWays', WHERE WHAT IT READS IS OF BULK AT MOST 1048576: true; the input reads as it did. -/
def runWaysUptoRow : OpenClaim := { program := "ytgebkpchpliahaagreat", sum := "8c1365ceff8635e4e1ea5f84d3815a37a9a721eb8bb1c57078af1e5f0c2df657", func := "roadbook/roadbooklaw12.RunWays", spec := "runWays", unfollowed := true, recurses := true, loops := true, plainKeys := false, apart := false, narrowed := true }
def RunWaysUptoSaid : Prop := runWaysUptoRow.holds Tryz.pinned (OpenSpec.upto runWaysSpec)

/-- 'roadbooklaw03.BagPicks', WHERE WHAT IT READS IS OF BULK AT MOST 1048576: true; the input reads as it did. -/
def bagPicksUptoRow : OpenClaim := { program := "ytgebkpchpliahaagreat", sum := "8c1365ceff8635e4e1ea5f84d3815a37a9a721eb8bb1c57078af1e5f0c2df657", func := "roadbook/roadbooklaw03.BagPicks", spec := "bagPicks", inPlace := ["math/bits.Add64"], unfollowed := true, recurses := true, loops := true, plainKeys := false, apart := false, narrowed := true }
def BagPicksUptoSaid : Prop := bagPicksUptoRow.holds Tryz.pinned (OpenSpec.upto bagPicksSpec)

/-- 'roadbooklaw03.BagKeeps', WHERE WHAT IT READS IS OF BULK AT MOST 1048576: true; the input reads as it did. -/
def bagKeepsUptoRow : OpenClaim := { program := "ytgebkpchpliahaagreat", sum := "8c1365ceff8635e4e1ea5f84d3815a37a9a721eb8bb1c57078af1e5f0c2df657", func := "roadbook/roadbooklaw03.BagKeeps", spec := "bagKeeps", inPlace := ["math/bits.Add64"], unfollowed := true, recurses := true, loops := true, plainKeys := false, apart := false, narrowed := true }
def BagKeepsUptoSaid : Prop := bagKeepsUptoRow.holds Tryz.pinned (OpenSpec.upto bagKeepsSpec)

/-- 'roadbooklaw12.RunTells', WHERE WHAT IT READS IS OF BULK AT MOST 1048576: true; the input reads as it did. -/
def runTellsUptoRow : OpenClaim := { program := "ytgebkpchpliahaagreat", sum := "8c1365ceff8635e4e1ea5f84d3815a37a9a721eb8bb1c57078af1e5f0c2df657", func := "roadbook/roadbooklaw12.RunTells", spec := "runTells", inPlace := ["math/bits.Add64"], unfollowed := true, recurses := true, loops := true, plainKeys := false, apart := false, narrowed := true }
def RunTellsUptoSaid : Prop := runTellsUptoRow.holds Tryz.pinned (OpenSpec.upto runTellsSpec)

end Rows
end Go.Proofs.YtgebkpchpliahaaGreat
