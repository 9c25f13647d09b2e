/-
  NARROWER THAN 'FOR EVERY INPUT', by the rows' own cells (each row's printed sentence says how): RunCount: loops, laid · MeansMore: loops, laid · RunOrder: loops, laid · MeansTells: loops, laid · MeansTurned: loops, laid · MeansCols: loops, laid · MeansFinish: loops, laid · MeansTrees: loops, laid · RunSame: loops, laid · RunRight: loops, laid.
  DERIVED. THE GIVEN ROWS OF THIS SEAT. 10 by the template 'for every input the law returns true; each argument reads behind the call as it read before'; 0 by the template 'total and deterministic' (their statements: YtgebkpchpliahaaGreatDoorTotals.lean).
  GIVEN WITH THE SEED: the statements are not yours to turn. If you find one false, say at which input.
  Laid BY PROGRAM, IN A SANDBOX (cutbox-rows.mjs): the forced cells as the released guide's own fill.sh prints them over the translation 7a63c49549ef3ac7… (all of the seat's roots in one cut). By AI agents, Wed Nov 11 2026. No macro, syntax, notation, axiom, sorry.
-/
import Derived.Test.YtgebkpchpliahaaGreatDoorChecked
import GoSem.Claim
import GoSem.ClaimJoined
import GoSem.ClaimMapViews
import Derived.JoinedTies
import Derived.KernelRfl
namespace Go.Proofs.YtgebkpchpliahaaGreatDoor
/- THE CELL 'sum', in the pinned program and in every row, IS THE sha256 OF THE DUMP (.gsa) THAT YtgebkpchpliahaaGreatDoorProg.lean LOADS. Nothing in Lean hashes anything: it is a label: what it is worth is what the hold of that sum in a sandbox is worth. -/
noncomputable def Tryz.pinned : Pinned := { name := "ytgebkpchpliahaagreatdoor", sum := "7a63c49549ef3ac7514cbae46f15b7902a84074409a04087fdc90732c3b4dccd", checked := Tryz.checked }
namespace Rows
def none {H : Type} : Left H := { results := [], args := [] }

/- WHAT THE LISTED PACKAGE-LEVEL VARIABLES READ AS WHEN THE CALL BEGINS. Each datum BY PROGRAM (the guide's laid-datum.mjs) off the statement by which the dump's own 'gosem.cut.vars' lays the variable. In a bare row this is a premise. The card (YtgebkpchpliahaaGreatDoorCards.lean) ties it to the program's text. -/
def laid_math_bits_deBruijn32tab {H : Type} : DataW H := .agg [.lit (.int .u8 0), .lit (.int .u8 1), .lit (.int .u8 28), .lit (.int .u8 2), .lit (.int .u8 29), .lit (.int .u8 14), .lit (.int .u8 24), .lit (.int .u8 3), .lit (.int .u8 30), .lit (.int .u8 22), .lit (.int .u8 20), .lit (.int .u8 15), .lit (.int .u8 25), .lit (.int .u8 17), .lit (.int .u8 4), .lit (.int .u8 8), .lit (.int .u8 31), .lit (.int .u8 27), .lit (.int .u8 13), .lit (.int .u8 23), .lit (.int .u8 21), .lit (.int .u8 19), .lit (.int .u8 16), .lit (.int .u8 7), .lit (.int .u8 26), .lit (.int .u8 12), .lit (.int .u8 18), .lit (.int .u8 6), .lit (.int .u8 11), .lit (.int .u8 5), .lit (.int .u8 10), .lit (.int .u8 9)]
def laid_math_bits_deBruijn64tab {H : Type} : DataW H := .agg [.lit (.int .u8 0), .lit (.int .u8 1), .lit (.int .u8 56), .lit (.int .u8 2), .lit (.int .u8 57), .lit (.int .u8 49), .lit (.int .u8 28), .lit (.int .u8 3), .lit (.int .u8 61), .lit (.int .u8 58), .lit (.int .u8 42), .lit (.int .u8 50), .lit (.int .u8 38), .lit (.int .u8 29), .lit (.int .u8 17), .lit (.int .u8 4), .lit (.int .u8 62), .lit (.int .u8 47), .lit (.int .u8 59), .lit (.int .u8 36), .lit (.int .u8 45), .lit (.int .u8 43), .lit (.int .u8 51), .lit (.int .u8 22), .lit (.int .u8 53), .lit (.int .u8 39), .lit (.int .u8 33), .lit (.int .u8 30), .lit (.int .u8 24), .lit (.int .u8 18), .lit (.int .u8 12), .lit (.int .u8 5), .lit (.int .u8 63), .lit (.int .u8 55), .lit (.int .u8 48), .lit (.int .u8 27), .lit (.int .u8 60), .lit (.int .u8 41), .lit (.int .u8 37), .lit (.int .u8 16), .lit (.int .u8 46), .lit (.int .u8 35), .lit (.int .u8 44), .lit (.int .u8 21), .lit (.int .u8 52), .lit (.int .u8 32), .lit (.int .u8 23), .lit (.int .u8 11), .lit (.int .u8 54), .lit (.int .u8 26), .lit (.int .u8 40), .lit (.int .u8 15), .lit (.int .u8 34), .lit (.int .u8 20), .lit (.int .u8 31), .lit (.int .u8 10), .lit (.int .u8 25), .lit (.int .u8 14), .lit (.int .u8 19), .lit (.int .u8 9), .lit (.int .u8 13), .lit (.int .u8 8), .lit (.int .u8 7), .lit (.int .u8 6)]
def laid_internal_strconv_uint64pow10 {H : Type} : DataW H := .agg [.lit (.int .u64 1), .lit (.int .u64 10), .lit (.int .u64 100), .lit (.int .u64 1000), .lit (.int .u64 10000), .lit (.int .u64 100000), .lit (.int .u64 1000000), .lit (.int .u64 10000000), .lit (.int .u64 100000000), .lit (.int .u64 1000000000), .lit (.int .u64 10000000000), .lit (.int .u64 100000000000), .lit (.int .u64 1000000000000), .lit (.int .u64 10000000000000), .lit (.int .u64 100000000000000), .lit (.int .u64 1000000000000000), .lit (.int .u64 10000000000000000), .lit (.int .u64 100000000000000000), .lit (.int .u64 1000000000000000000), .lit (.int .u64 10000000000000000000)]

/-- 'roadbooklaw12.RunCount': WHATEVER THE INPUT: true; the input reads as it did. -/
def runCountSpec : ChangeSpec := { name := "runCount", fn := fun _ => fun
  | [d1, d2, d3, d4] => { results := [.lit (.bool true)], args := [d1, d2, d3, d4] }
  | _ => none }
def runCountRow : OpenClaim := { program := "ytgebkpchpliahaagreatdoor", sum := "7a63c49549ef3ac7514cbae46f15b7902a84074409a04087fdc90732c3b4dccd", func := "roadbook/roadbooklaw12.RunCount", spec := "runCount", inPlace := ["internal/abi.NoEscape"], unfollowed := true, recurses := true, named := ["internal/strconv.uint64pow10", "math/bits.deBruijn32tab", "math/bits.deBruijn64tab"], loops := true, plainKeys := false, apart := false, laid := [("math/bits.deBruijn32tab", laid_math_bits_deBruijn32tab), ("math/bits.deBruijn64tab", laid_math_bits_deBruijn64tab), ("internal/strconv.uint64pow10", laid_internal_strconv_uint64pow10)] }
def RunCountSaid : Prop := runCountRow.holds Tryz.pinned (OpenSpec.ofChange runCountSpec)

/-- ITS FALSE NEIGHBOUR: 'it returns false'. Refute it at one input. -/
def runCountWrong : ChangeSpec := { name := "runCount", fn := fun _ => fun
  | [d1, d2, d3, d4] => { results := [.lit (.bool false)], args := [d1, d2, d3, d4] }
  | _ => none }
def RunCountWrongFalsely : Prop := runCountRow.holds Tryz.pinned (OpenSpec.ofChange runCountWrong)

/-- 'roadbooklaw07.MeansMore': WHATEVER THE INPUT: true; the input reads as it did. -/
def meansMoreSpec : ChangeSpec := { name := "meansMore", fn := fun _ => fun
  | [d1, d2, d3, d4, d5] => { results := [.lit (.bool true)], args := [d1, d2, d3, d4, d5] }
  | _ => none }
def meansMoreRow : OpenClaim := { program := "ytgebkpchpliahaagreatdoor", sum := "7a63c49549ef3ac7514cbae46f15b7902a84074409a04087fdc90732c3b4dccd", func := "roadbook/roadbooklaw07.MeansMore", spec := "meansMore", inPlace := ["math/bits.Add64", "internal/abi.NoEscape"], unfollowed := true, recurses := true, named := ["internal/strconv.uint64pow10", "math/bits.deBruijn32tab", "math/bits.deBruijn64tab"], loops := true, plainKeys := false, apart := false, laid := [("math/bits.deBruijn32tab", laid_math_bits_deBruijn32tab), ("math/bits.deBruijn64tab", laid_math_bits_deBruijn64tab), ("internal/strconv.uint64pow10", laid_internal_strconv_uint64pow10)] }
def MeansMoreSaid : Prop := meansMoreRow.holds Tryz.pinned (OpenSpec.ofChange meansMoreSpec)

/-- ITS FALSE NEIGHBOUR: 'it returns false'. Refute it at one input. -/
def meansMoreWrong : ChangeSpec := { name := "meansMore", fn := fun _ => fun
  | [d1, d2, d3, d4, d5] => { results := [.lit (.bool false)], args := [d1, d2, d3, d4, d5] }
  | _ => none }
def MeansMoreWrongFalsely : Prop := meansMoreRow.holds Tryz.pinned (OpenSpec.ofChange meansMoreWrong)

/-- 'roadbooklaw12.RunOrder': WHATEVER THE INPUT: true; the input reads as it did. -/
def runOrderSpec : ChangeSpec := { name := "runOrder", fn := fun _ => fun
  | [d1, d2, d3, d4] => { results := [.lit (.bool true)], args := [d1, d2, d3, d4] }
  | _ => none }
def runOrderRow : OpenClaim := { program := "ytgebkpchpliahaagreatdoor", sum := "7a63c49549ef3ac7514cbae46f15b7902a84074409a04087fdc90732c3b4dccd", func := "roadbook/roadbooklaw12.RunOrder", spec := "runOrder", inPlace := ["internal/abi.NoEscape"], unfollowed := true, recurses := true, named := ["internal/strconv.uint64pow10", "math/bits.deBruijn32tab", "math/bits.deBruijn64tab"], loops := true, plainKeys := false, apart := false, laid := [("math/bits.deBruijn32tab", laid_math_bits_deBruijn32tab), ("math/bits.deBruijn64tab", laid_math_bits_deBruijn64tab), ("internal/strconv.uint64pow10", laid_internal_strconv_uint64pow10)] }
def RunOrderSaid : Prop := runOrderRow.holds Tryz.pinned (OpenSpec.ofChange runOrderSpec)

/-- ITS FALSE NEIGHBOUR: 'it returns false'. Refute it at one input. -/
def runOrderWrong : ChangeSpec := { name := "runOrder", fn := fun _ => fun
  | [d1, d2, d3, d4] => { results := [.lit (.bool false)], args := [d1, d2, d3, d4] }
  | _ => none }
def RunOrderWrongFalsely : Prop := runOrderRow.holds Tryz.pinned (OpenSpec.ofChange runOrderWrong)

/-- 'roadbooklaw07.MeansTells': WHATEVER THE INPUT: true; the input reads as it did. -/
def meansTellsSpec : ChangeSpec := { name := "meansTells", fn := fun _ => fun
  | [d1, d2, d3, d4, d5] => { results := [.lit (.bool true)], args := [d1, d2, d3, d4, d5] }
  | _ => none }
def meansTellsRow : OpenClaim := { program := "ytgebkpchpliahaagreatdoor", sum := "7a63c49549ef3ac7514cbae46f15b7902a84074409a04087fdc90732c3b4dccd", func := "roadbook/roadbooklaw07.MeansTells", spec := "meansTells", inPlace := ["math/bits.Add64", "internal/abi.NoEscape"], unfollowed := true, recurses := true, named := ["internal/strconv.uint64pow10", "math/bits.deBruijn32tab", "math/bits.deBruijn64tab"], loops := true, plainKeys := false, apart := false, laid := [("math/bits.deBruijn32tab", laid_math_bits_deBruijn32tab), ("math/bits.deBruijn64tab", laid_math_bits_deBruijn64tab), ("internal/strconv.uint64pow10", laid_internal_strconv_uint64pow10)] }
def MeansTellsSaid : Prop := meansTellsRow.holds Tryz.pinned (OpenSpec.ofChange meansTellsSpec)

/-- ITS FALSE NEIGHBOUR: 'it returns false'. Refute it at one input. -/
def meansTellsWrong : ChangeSpec := { name := "meansTells", fn := fun _ => fun
  | [d1, d2, d3, d4, d5] => { results := [.lit (.bool false)], args := [d1, d2, d3, d4, d5] }
  | _ => none }
def MeansTellsWrongFalsely : Prop := meansTellsRow.holds Tryz.pinned (OpenSpec.ofChange meansTellsWrong)

/-- 'roadbooklaw07.MeansTurned': WHATEVER THE INPUT: true; the input reads as it did. -/
def meansTurnedSpec : ChangeSpec := { name := "meansTurned", fn := fun _ => fun
  | [d1, d2, d3, d4, d5, d6] => { results := [.lit (.bool true)], args := [d1, d2, d3, d4, d5, d6] }
  | _ => none }
def meansTurnedRow : OpenClaim := { program := "ytgebkpchpliahaagreatdoor", sum := "7a63c49549ef3ac7514cbae46f15b7902a84074409a04087fdc90732c3b4dccd", func := "roadbook/roadbooklaw07.MeansTurned", spec := "meansTurned", inPlace := ["math/bits.Add64", "internal/abi.NoEscape"], unfollowed := true, recurses := true, named := ["internal/strconv.uint64pow10", "math/bits.deBruijn32tab", "math/bits.deBruijn64tab"], loops := true, plainKeys := false, apart := false, laid := [("math/bits.deBruijn32tab", laid_math_bits_deBruijn32tab), ("math/bits.deBruijn64tab", laid_math_bits_deBruijn64tab), ("internal/strconv.uint64pow10", laid_internal_strconv_uint64pow10)] }
def MeansTurnedSaid : Prop := meansTurnedRow.holds Tryz.pinned (OpenSpec.ofChange meansTurnedSpec)

/-- ITS FALSE NEIGHBOUR: 'it returns false'. Refute it at one input. -/
def meansTurnedWrong : ChangeSpec := { name := "meansTurned", fn := fun _ => fun
  | [d1, d2, d3, d4, d5, d6] => { results := [.lit (.bool false)], args := [d1, d2, d3, d4, d5, d6] }
  | _ => none }
def MeansTurnedWrongFalsely : Prop := meansTurnedRow.holds Tryz.pinned (OpenSpec.ofChange meansTurnedWrong)

/-- 'roadbooklaw07.MeansCols': WHATEVER THE INPUT: true; the input reads as it did. -/
def meansColsSpec : ChangeSpec := { name := "meansCols", fn := fun _ => fun
  | [d1, d2, d3, d4] => { results := [.lit (.bool true)], args := [d1, d2, d3, d4] }
  | _ => none }
def meansColsRow : OpenClaim := { program := "ytgebkpchpliahaagreatdoor", sum := "7a63c49549ef3ac7514cbae46f15b7902a84074409a04087fdc90732c3b4dccd", func := "roadbook/roadbooklaw07.MeansCols", spec := "meansCols", inPlace := ["math/bits.Add64", "internal/abi.NoEscape"], unfollowed := true, recurses := true, named := ["internal/strconv.uint64pow10", "math/bits.deBruijn32tab", "math/bits.deBruijn64tab"], loops := true, plainKeys := false, apart := false, laid := [("math/bits.deBruijn32tab", laid_math_bits_deBruijn32tab), ("math/bits.deBruijn64tab", laid_math_bits_deBruijn64tab), ("internal/strconv.uint64pow10", laid_internal_strconv_uint64pow10)] }
def MeansColsSaid : Prop := meansColsRow.holds Tryz.pinned (OpenSpec.ofChange meansColsSpec)

/-- ITS FALSE NEIGHBOUR: 'it returns false'. Refute it at one input. -/
def meansColsWrong : ChangeSpec := { name := "meansCols", fn := fun _ => fun
  | [d1, d2, d3, d4] => { results := [.lit (.bool false)], args := [d1, d2, d3, d4] }
  | _ => none }
def MeansColsWrongFalsely : Prop := meansColsRow.holds Tryz.pinned (OpenSpec.ofChange meansColsWrong)

/-- 'roadbooklaw07.MeansFinish': WHATEVER THE INPUT: true; the input reads as it did. -/
def meansFinishSpec : ChangeSpec := { name := "meansFinish", fn := fun _ => fun
  | [d1, d2, d3] => { results := [.lit (.bool true)], args := [d1, d2, d3] }
  | _ => none }
def meansFinishRow : OpenClaim := { program := "ytgebkpchpliahaagreatdoor", sum := "7a63c49549ef3ac7514cbae46f15b7902a84074409a04087fdc90732c3b4dccd", func := "roadbook/roadbooklaw07.MeansFinish", spec := "meansFinish", inPlace := ["math/bits.Add64", "internal/abi.NoEscape"], unfollowed := true, recurses := true, named := ["internal/strconv.uint64pow10", "math/bits.deBruijn32tab", "math/bits.deBruijn64tab"], loops := true, plainKeys := false, apart := false, laid := [("math/bits.deBruijn32tab", laid_math_bits_deBruijn32tab), ("math/bits.deBruijn64tab", laid_math_bits_deBruijn64tab), ("internal/strconv.uint64pow10", laid_internal_strconv_uint64pow10)] }
def MeansFinishSaid : Prop := meansFinishRow.holds Tryz.pinned (OpenSpec.ofChange meansFinishSpec)

/-- ITS FALSE NEIGHBOUR: 'it returns false'. Refute it at one input. -/
def meansFinishWrong : ChangeSpec := { name := "meansFinish", fn := fun _ => fun
  | [d1, d2, d3] => { results := [.lit (.bool false)], args := [d1, d2, d3] }
  | _ => none }
def MeansFinishWrongFalsely : Prop := meansFinishRow.holds Tryz.pinned (OpenSpec.ofChange meansFinishWrong)

/-- 'roadbooklaw07.MeansTrees': WHATEVER THE INPUT: true; the input reads as it did. -/
def meansTreesSpec : ChangeSpec := { name := "meansTrees", fn := fun _ => fun
  | [d1, d2, d3, d4] => { results := [.lit (.bool true)], args := [d1, d2, d3, d4] }
  | _ => none }
def meansTreesRow : OpenClaim := { program := "ytgebkpchpliahaagreatdoor", sum := "7a63c49549ef3ac7514cbae46f15b7902a84074409a04087fdc90732c3b4dccd", func := "roadbook/roadbooklaw07.MeansTrees", spec := "meansTrees", inPlace := ["math/bits.Add64", "internal/abi.NoEscape"], unfollowed := true, recurses := true, named := ["internal/strconv.uint64pow10", "math/bits.deBruijn32tab", "math/bits.deBruijn64tab"], loops := true, plainKeys := false, apart := false, laid := [("math/bits.deBruijn32tab", laid_math_bits_deBruijn32tab), ("math/bits.deBruijn64tab", laid_math_bits_deBruijn64tab), ("internal/strconv.uint64pow10", laid_internal_strconv_uint64pow10)] }
def MeansTreesSaid : Prop := meansTreesRow.holds Tryz.pinned (OpenSpec.ofChange meansTreesSpec)

/-- ITS FALSE NEIGHBOUR: 'it returns false'. Refute it at one input. -/
def meansTreesWrong : ChangeSpec := { name := "meansTrees", fn := fun _ => fun
  | [d1, d2, d3, d4] => { results := [.lit (.bool false)], args := [d1, d2, d3, d4] }
  | _ => none }
def MeansTreesWrongFalsely : Prop := meansTreesRow.holds Tryz.pinned (OpenSpec.ofChange meansTreesWrong)

/-- 'roadbooklaw12.RunSame': WHATEVER THE INPUT: true; the input reads as it did. -/
def runSameSpec : ChangeSpec := { name := "runSame", fn := fun _ => fun
  | [d1, d2, d3, d4, d5] => { results := [.lit (.bool true)], args := [d1, d2, d3, d4, d5] }
  | _ => none }
def runSameRow : OpenClaim := { program := "ytgebkpchpliahaagreatdoor", sum := "7a63c49549ef3ac7514cbae46f15b7902a84074409a04087fdc90732c3b4dccd", func := "roadbook/roadbooklaw12.RunSame", spec := "runSame", inPlace := ["math/bits.Add64", "internal/abi.NoEscape"], unfollowed := true, recurses := true, named := ["internal/strconv.uint64pow10", "math/bits.deBruijn32tab", "math/bits.deBruijn64tab"], loops := true, plainKeys := false, apart := false, laid := [("math/bits.deBruijn32tab", laid_math_bits_deBruijn32tab), ("math/bits.deBruijn64tab", laid_math_bits_deBruijn64tab), ("internal/strconv.uint64pow10", laid_internal_strconv_uint64pow10)] }
def RunSameSaid : Prop := runSameRow.holds Tryz.pinned (OpenSpec.ofChange runSameSpec)

/-- ITS FALSE NEIGHBOUR: 'it returns false'. Refute it at one input. -/
def runSameWrong : ChangeSpec := { name := "runSame", fn := fun _ => fun
  | [d1, d2, d3, d4, d5] => { results := [.lit (.bool false)], args := [d1, d2, d3, d4, d5] }
  | _ => none }
def RunSameWrongFalsely : Prop := runSameRow.holds Tryz.pinned (OpenSpec.ofChange runSameWrong)

/-- 'roadbooklaw12.RunRight': WHATEVER THE INPUT: true; the input reads as it did. -/
def runRightSpec : ChangeSpec := { name := "runRight", fn := fun _ => fun
  | [d1, d2, d3, d4] => { results := [.lit (.bool true)], args := [d1, d2, d3, d4] }
  | _ => none }
def runRightRow : OpenClaim := { program := "ytgebkpchpliahaagreatdoor", sum := "7a63c49549ef3ac7514cbae46f15b7902a84074409a04087fdc90732c3b4dccd", func := "roadbook/roadbooklaw12.RunRight", spec := "runRight", inPlace := ["math/bits.Add64", "internal/abi.NoEscape"], unfollowed := true, recurses := true, named := ["internal/strconv.uint64pow10", "math/bits.deBruijn32tab", "math/bits.deBruijn64tab"], loops := true, plainKeys := false, apart := false, laid := [("math/bits.deBruijn32tab", laid_math_bits_deBruijn32tab), ("math/bits.deBruijn64tab", laid_math_bits_deBruijn64tab), ("internal/strconv.uint64pow10", laid_internal_strconv_uint64pow10)] }
def RunRightSaid : Prop := runRightRow.holds Tryz.pinned (OpenSpec.ofChange runRightSpec)

/-- ITS FALSE NEIGHBOUR: 'it returns false'. Refute it at one input. -/
def runRightWrong : ChangeSpec := { name := "runRight", fn := fun _ => fun
  | [d1, d2, d3, d4] => { results := [.lit (.bool false)], args := [d1, d2, d3, d4] }
  | _ => none }
def RunRightWrongFalsely : Prop := runRightRow.holds Tryz.pinned (OpenSpec.ofChange runRightWrong)

/- THE SECOND FORM. 'bulk': how many values and letters a reading holds, each counted each time it is reached (what is shared counts as often as it is met; a slice's spare places count too). A statement '..UptoSaid' is the law's where the arguments, and the package variables that the reading takes, are together of bulk at most 1048576: NARROWER than '..Said'. Prove '..Said' where nothing that the law and all that it calls make is longer than what came in: it says more and counts as full. Else prove '..UptoSaid'. A law counts once. -/
mutual
def uptoBulk {H : Type} : DataW H → Nat
  | .lit (.string bytes) => bytes.length + 1
  | .lit _ => 1
  | .nil => 1
  | .ptr d => uptoBulk d + 1
  | .slice elems spare => uptoBulkAll elems + uptoBulkAll spare + 1
  | .agg parts => uptoBulkAll parts + 1
  | .iface _ d => uptoBulk d + 1
  | .map entries => uptoBulkEntries entries + 1
  | .held _ => 1
def uptoBulkAll {H : Type} : List (DataW H) → Nat
  | [] => 0
  | d :: r => uptoBulk d + uptoBulkAll r
def uptoBulkEntries {H : Type} : List (Lit × DataW H) → Nat
  | [] => 0
  | x :: r => uptoBulkEntry x + uptoBulkEntries r
def uptoBulkEntry {H : Type} : Lit × DataW H → Nat
  | (.string bytes, d) => bytes.length + uptoBulk d + 1
  | (_, d) => uptoBulk d + 1
 end
def uptoSmall : (H : Type) → List (DataW H) → Bool := fun _ ds => decide (uptoBulkAll ds ≤ 1048576)
def OpenSpec.upto (s : _root_.Go.ChangeSpec) : _root_.Go.OpenSpec := { _root_.Go.OpenSpec.ofChange s with cond := some uptoSmall }

/-- 'roadbooklaw12.RunCount', WHERE WHAT IT READS IS OF BULK AT MOST 1048576: true; the input reads as it did. -/
def runCountUptoRow : OpenClaim := { program := "ytgebkpchpliahaagreatdoor", sum := "7a63c49549ef3ac7514cbae46f15b7902a84074409a04087fdc90732c3b4dccd", func := "roadbook/roadbooklaw12.RunCount", spec := "runCount", inPlace := ["internal/abi.NoEscape"], unfollowed := true, recurses := true, named := ["internal/strconv.uint64pow10", "math/bits.deBruijn32tab", "math/bits.deBruijn64tab"], loops := true, plainKeys := false, apart := false, laid := [("math/bits.deBruijn32tab", laid_math_bits_deBruijn32tab), ("math/bits.deBruijn64tab", laid_math_bits_deBruijn64tab), ("internal/strconv.uint64pow10", laid_internal_strconv_uint64pow10)], narrowed := true }
def RunCountUptoSaid : Prop := runCountUptoRow.holds Tryz.pinned (OpenSpec.upto runCountSpec)

/-- 'roadbooklaw07.MeansMore', WHERE WHAT IT READS IS OF BULK AT MOST 1048576: true; the input reads as it did. -/
def meansMoreUptoRow : OpenClaim := { program := "ytgebkpchpliahaagreatdoor", sum := "7a63c49549ef3ac7514cbae46f15b7902a84074409a04087fdc90732c3b4dccd", func := "roadbook/roadbooklaw07.MeansMore", spec := "meansMore", inPlace := ["math/bits.Add64", "internal/abi.NoEscape"], unfollowed := true, recurses := true, named := ["internal/strconv.uint64pow10", "math/bits.deBruijn32tab", "math/bits.deBruijn64tab"], loops := true, plainKeys := false, apart := false, laid := [("math/bits.deBruijn32tab", laid_math_bits_deBruijn32tab), ("math/bits.deBruijn64tab", laid_math_bits_deBruijn64tab), ("internal/strconv.uint64pow10", laid_internal_strconv_uint64pow10)], narrowed := true }
def MeansMoreUptoSaid : Prop := meansMoreUptoRow.holds Tryz.pinned (OpenSpec.upto meansMoreSpec)

/-- 'roadbooklaw12.RunOrder', WHERE WHAT IT READS IS OF BULK AT MOST 1048576: true; the input reads as it did. -/
def runOrderUptoRow : OpenClaim := { program := "ytgebkpchpliahaagreatdoor", sum := "7a63c49549ef3ac7514cbae46f15b7902a84074409a04087fdc90732c3b4dccd", func := "roadbook/roadbooklaw12.RunOrder", spec := "runOrder", inPlace := ["internal/abi.NoEscape"], unfollowed := true, recurses := true, named := ["internal/strconv.uint64pow10", "math/bits.deBruijn32tab", "math/bits.deBruijn64tab"], loops := true, plainKeys := false, apart := false, laid := [("math/bits.deBruijn32tab", laid_math_bits_deBruijn32tab), ("math/bits.deBruijn64tab", laid_math_bits_deBruijn64tab), ("internal/strconv.uint64pow10", laid_internal_strconv_uint64pow10)], narrowed := true }
def RunOrderUptoSaid : Prop := runOrderUptoRow.holds Tryz.pinned (OpenSpec.upto runOrderSpec)

/-- 'roadbooklaw07.MeansTells', WHERE WHAT IT READS IS OF BULK AT MOST 1048576: true; the input reads as it did. -/
def meansTellsUptoRow : OpenClaim := { program := "ytgebkpchpliahaagreatdoor", sum := "7a63c49549ef3ac7514cbae46f15b7902a84074409a04087fdc90732c3b4dccd", func := "roadbook/roadbooklaw07.MeansTells", spec := "meansTells", inPlace := ["math/bits.Add64", "internal/abi.NoEscape"], unfollowed := true, recurses := true, named := ["internal/strconv.uint64pow10", "math/bits.deBruijn32tab", "math/bits.deBruijn64tab"], loops := true, plainKeys := false, apart := false, laid := [("math/bits.deBruijn32tab", laid_math_bits_deBruijn32tab), ("math/bits.deBruijn64tab", laid_math_bits_deBruijn64tab), ("internal/strconv.uint64pow10", laid_internal_strconv_uint64pow10)], narrowed := true }
def MeansTellsUptoSaid : Prop := meansTellsUptoRow.holds Tryz.pinned (OpenSpec.upto meansTellsSpec)

/-- 'roadbooklaw07.MeansTurned', WHERE WHAT IT READS IS OF BULK AT MOST 1048576: true; the input reads as it did. -/
def meansTurnedUptoRow : OpenClaim := { program := "ytgebkpchpliahaagreatdoor", sum := "7a63c49549ef3ac7514cbae46f15b7902a84074409a04087fdc90732c3b4dccd", func := "roadbook/roadbooklaw07.MeansTurned", spec := "meansTurned", inPlace := ["math/bits.Add64", "internal/abi.NoEscape"], unfollowed := true, recurses := true, named := ["internal/strconv.uint64pow10", "math/bits.deBruijn32tab", "math/bits.deBruijn64tab"], loops := true, plainKeys := false, apart := false, laid := [("math/bits.deBruijn32tab", laid_math_bits_deBruijn32tab), ("math/bits.deBruijn64tab", laid_math_bits_deBruijn64tab), ("internal/strconv.uint64pow10", laid_internal_strconv_uint64pow10)], narrowed := true }
def MeansTurnedUptoSaid : Prop := meansTurnedUptoRow.holds Tryz.pinned (OpenSpec.upto meansTurnedSpec)

/-- 'roadbooklaw07.MeansCols', WHERE WHAT IT READS IS OF BULK AT MOST 1048576: true; the input reads as it did. -/
def meansColsUptoRow : OpenClaim := { program := "ytgebkpchpliahaagreatdoor", sum := "7a63c49549ef3ac7514cbae46f15b7902a84074409a04087fdc90732c3b4dccd", func := "roadbook/roadbooklaw07.MeansCols", spec := "meansCols", inPlace := ["math/bits.Add64", "internal/abi.NoEscape"], unfollowed := true, recurses := true, named := ["internal/strconv.uint64pow10", "math/bits.deBruijn32tab", "math/bits.deBruijn64tab"], loops := true, plainKeys := false, apart := false, laid := [("math/bits.deBruijn32tab", laid_math_bits_deBruijn32tab), ("math/bits.deBruijn64tab", laid_math_bits_deBruijn64tab), ("internal/strconv.uint64pow10", laid_internal_strconv_uint64pow10)], narrowed := true }
def MeansColsUptoSaid : Prop := meansColsUptoRow.holds Tryz.pinned (OpenSpec.upto meansColsSpec)

/-- 'roadbooklaw07.MeansFinish', WHERE WHAT IT READS IS OF BULK AT MOST 1048576: true; the input reads as it did. -/
def meansFinishUptoRow : OpenClaim := { program := "ytgebkpchpliahaagreatdoor", sum := "7a63c49549ef3ac7514cbae46f15b7902a84074409a04087fdc90732c3b4dccd", func := "roadbook/roadbooklaw07.MeansFinish", spec := "meansFinish", inPlace := ["math/bits.Add64", "internal/abi.NoEscape"], unfollowed := true, recurses := true, named := ["internal/strconv.uint64pow10", "math/bits.deBruijn32tab", "math/bits.deBruijn64tab"], loops := true, plainKeys := false, apart := false, laid := [("math/bits.deBruijn32tab", laid_math_bits_deBruijn32tab), ("math/bits.deBruijn64tab", laid_math_bits_deBruijn64tab), ("internal/strconv.uint64pow10", laid_internal_strconv_uint64pow10)], narrowed := true }
def MeansFinishUptoSaid : Prop := meansFinishUptoRow.holds Tryz.pinned (OpenSpec.upto meansFinishSpec)

/-- 'roadbooklaw07.MeansTrees', WHERE WHAT IT READS IS OF BULK AT MOST 1048576: true; the input reads as it did. -/
def meansTreesUptoRow : OpenClaim := { program := "ytgebkpchpliahaagreatdoor", sum := "7a63c49549ef3ac7514cbae46f15b7902a84074409a04087fdc90732c3b4dccd", func := "roadbook/roadbooklaw07.MeansTrees", spec := "meansTrees", inPlace := ["math/bits.Add64", "internal/abi.NoEscape"], unfollowed := true, recurses := true, named := ["internal/strconv.uint64pow10", "math/bits.deBruijn32tab", "math/bits.deBruijn64tab"], loops := true, plainKeys := false, apart := false, laid := [("math/bits.deBruijn32tab", laid_math_bits_deBruijn32tab), ("math/bits.deBruijn64tab", laid_math_bits_deBruijn64tab), ("internal/strconv.uint64pow10", laid_internal_strconv_uint64pow10)], narrowed := true }
def MeansTreesUptoSaid : Prop := meansTreesUptoRow.holds Tryz.pinned (OpenSpec.upto meansTreesSpec)

/-- 'roadbooklaw12.RunSame', WHERE WHAT IT READS IS OF BULK AT MOST 1048576: true; the input reads as it did. -/
def runSameUptoRow : OpenClaim := { program := "ytgebkpchpliahaagreatdoor", sum := "7a63c49549ef3ac7514cbae46f15b7902a84074409a04087fdc90732c3b4dccd", func := "roadbook/roadbooklaw12.RunSame", spec := "runSame", inPlace := ["math/bits.Add64", "internal/abi.NoEscape"], unfollowed := true, recurses := true, named := ["internal/strconv.uint64pow10", "math/bits.deBruijn32tab", "math/bits.deBruijn64tab"], loops := true, plainKeys := false, apart := false, laid := [("math/bits.deBruijn32tab", laid_math_bits_deBruijn32tab), ("math/bits.deBruijn64tab", laid_math_bits_deBruijn64tab), ("internal/strconv.uint64pow10", laid_internal_strconv_uint64pow10)], narrowed := true }
def RunSameUptoSaid : Prop := runSameUptoRow.holds Tryz.pinned (OpenSpec.upto runSameSpec)

/-- 'roadbooklaw12.RunRight', WHERE WHAT IT READS IS OF BULK AT MOST 1048576: true; the input reads as it did. -/
def runRightUptoRow : OpenClaim := { program := "ytgebkpchpliahaagreatdoor", sum := "7a63c49549ef3ac7514cbae46f15b7902a84074409a04087fdc90732c3b4dccd", func := "roadbook/roadbooklaw12.RunRight", spec := "runRight", inPlace := ["math/bits.Add64", "internal/abi.NoEscape"], unfollowed := true, recurses := true, named := ["internal/strconv.uint64pow10", "math/bits.deBruijn32tab", "math/bits.deBruijn64tab"], loops := true, plainKeys := false, apart := false, laid := [("math/bits.deBruijn32tab", laid_math_bits_deBruijn32tab), ("math/bits.deBruijn64tab", laid_math_bits_deBruijn64tab), ("internal/strconv.uint64pow10", laid_internal_strconv_uint64pow10)], narrowed := true }
def RunRightUptoSaid : Prop := runRightUptoRow.holds Tryz.pinned (OpenSpec.upto runRightSpec)

end Rows
end Go.Proofs.YtgebkpchpliahaaGreatDoor
