/- Part 10 of the proof: an abstract machine that runs the program's code over plain values, its soundness, and what the functions tell of plain values. Conditions: those in each theorem. -/
import Derived.Test.YtdegbnjnbpjdfaaA8
import Derived.Test.YtdegbnjnbpjdfaaProg
namespace Go.Cf
open Go Go.Ab Go.Proofs
set_option maxRecDepth 100000
def ty : List TyI := [⟨.other, 1, 0, []⟩,
  ⟨.scalar, 1, 8, [.pv .nilfn]⟩,
  ⟨(.int .i64), 1, 8, [.pv (.int .i64 0)]⟩,
  ⟨(.int .i64), 1, 8, [.pv (.int .i64 0)]⟩,
  ⟨.bool, 1, 1, [.pv (.bool false)]⟩,
  ⟨(.int .u8), 1, 1, [.pv (.int .u8 0)]⟩,
  ⟨(.int .u8), 1, 1, [.pv (.int .u8 0)]⟩,
  ⟨(.struct [(2, 0), (3, 1), (4, 2), (6, 3)]), 4, 24, [.pv (.int .i64 0), .pv (.int .i64 0), .pv (.bool false), .pv (.int .u8 0)]⟩,
  ⟨(.struct [(2, 0), (3, 1), (4, 2), (6, 3)]), 4, 24, [.pv (.int .i64 0), .pv (.int .i64 0), .pv (.bool false), .pv (.int .u8 0)]⟩,
  ⟨.str, 1, 16, [.pv (.str ⟨#[]⟩)]⟩,
  ⟨.str, 1, 16, [.pv (.str ⟨#[]⟩)]⟩,
  ⟨.str, 1, 16, [.pv (.str ⟨#[]⟩)]⟩,
  ⟨(.int .u64), 1, 8, [.pv (.int .u64 0)]⟩,
  ⟨.other, 2, 24, []⟩,
  ⟨.other, 2, 24, []⟩,
  ⟨.scalar, 1, 8, [.pv (.con (.pointer none))]⟩,
  ⟨.scalar, 1, 8, [.pv (.con (.pointer none))]⟩,
  ⟨.scalar, 1, 8, [.pv (.con (.pointer none))]⟩,
  ⟨.other, 1, 8, []⟩,
  ⟨.other, 1, 8, []⟩,
  ⟨.scalar, 1, 16, [.pv (.con .nilIface)]⟩,
  ⟨(.int .i32), 1, 4, [.pv (.int .i32 0)]⟩,
  ⟨(.slice 25), 1, 24, [.nil 3]⟩,
  ⟨.scalar, 1, 8, [.pv .nilfn]⟩,
  ⟨(.struct [(3, 0), (3, 1)]), 2, 16, [.pv (.int .i64 0), .pv (.int .i64 0)]⟩,
  ⟨(.struct [(3, 0), (3, 1)]), 2, 16, [.pv (.int .i64 0), .pv (.int .i64 0)]⟩,
  ⟨.scalar, 1, 8, [.pv .nilfn]⟩,
  ⟨.scalar, 1, 8, [.pv .nilfn]⟩,
  ⟨.scalar, 1, 8, [.pv .nilfn]⟩,
  ⟨(.slice 3), 1, 24, [.nil 0]⟩,
  ⟨.scalar, 1, 8, [.pv .nilfn]⟩,
  ⟨.scalar, 1, 8, [.pv .nilfn]⟩,
  ⟨.scalar, 1, 8, [.pv .nilfn]⟩,
  ⟨.scalar, 1, 8, [.pv .nilfn]⟩,
  ⟨.scalar, 1, 8, [.pv .nilfn]⟩,
  ⟨.scalar, 1, 8, [.pv .nilfn]⟩,
  ⟨.scalar, 1, 8, [.pv .nilfn]⟩,
  ⟨(.slice 39), 1, 24, [.nil 3]⟩,
  ⟨(.struct [(3, 0), (37, 1)]), 2, 32, [.pv (.int .i64 0), .nil 3]⟩,
  ⟨(.struct [(3, 0), (37, 1)]), 2, 32, [.pv (.int .i64 0), .nil 3]⟩,
  ⟨.scalar, 1, 8, [.pv .nilfn]⟩,
  ⟨.other, 1, 0, []⟩,
  ⟨.scalar, 1, 8, [.pv .nilfn]⟩,
  ⟨.scalar, 1, 8, [.pv .nilfn]⟩,
  ⟨.scalar, 1, 8, [.pv .nilfn]⟩,
  ⟨.scalar, 1, 8, [.pv .nilfn]⟩,
  ⟨.scalar, 1, 8, [.pv .nilfn]⟩,
  ⟨.scalar, 1, 8, [.pv .nilfn]⟩,
  ⟨.scalar, 1, 8, [.pv .nilfn]⟩,
  ⟨.scalar, 1, 8, [.pv .nilfn]⟩,
  ⟨.scalar, 1, 8, [.pv .nilfn]⟩,
  ⟨.scalar, 1, 8, [.pv .nilfn]⟩,
  ⟨.scalar, 1, 8, [.pv .nilfn]⟩,
  ⟨.scalar, 1, 8, [.pv .nilfn]⟩,
  ⟨.scalar, 1, 8, [.pv .nilfn]⟩,
  ⟨.scalar, 1, 8, [.pv .nilfn]⟩,
  ⟨.scalar, 1, 8, [.pv .nilfn]⟩,
  ⟨.other, 1, 0, []⟩,
  ⟨.scalar, 1, 8, [.pv .nilfn]⟩,
  ⟨.scalar, 1, 8, [.pv .nilfn]⟩,
  ⟨.scalar, 1, 8, [.pv .nilfn]⟩,
  ⟨.scalar, 1, 8, [.pv .nilfn]⟩,
  ⟨.scalar, 1, 8, [.pv .nilfn]⟩,
  ⟨.scalar, 1, 8, [.pv .nilfn]⟩,
  ⟨.scalar, 1, 8, [.pv .nilfn]⟩,
  ⟨.scalar, 1, 8, [.pv .nilfn]⟩,
  ⟨(.int .u64), 1, 8, [.pv (.int .u64 0)]⟩,
  ⟨.other, 1, 0, []⟩,
  ⟨.scalar, 1, 8, [.pv .nilfn]⟩,
  ⟨(.int .u64), 1, 8, [.pv (.int .u64 0)]⟩,
  ⟨.scalar, 1, 8, [.pv .nilfn]⟩,
  ⟨.scalar, 1, 8, [.pv .nilfn]⟩,
  ⟨.scalar, 1, 8, [.pv .nilfn]⟩,
  ⟨.scalar, 1, 8, [.pv .nilfn]⟩,
  ⟨.other, 1, 0, []⟩,
  ⟨.scalar, 1, 8, [.pv .nilfn]⟩,
  ⟨.other, 1, 0, []⟩,
  ⟨.scalar, 1, 8, [.pv .nilfn]⟩,
  ⟨.other, 1, 0, []⟩,
  ⟨.scalar, 1, 8, [.pv .nilfn]⟩,
  ⟨(.slice 5), 1, 24, [.nil 0]⟩,
  ⟨.scalar, 1, 8, [.pv .nilfn]⟩,
  ⟨(.slice 9), 1, 24, [.nil 0]⟩,
  ⟨.scalar, 1, 8, [.pv .nilfn]⟩,
  ⟨.scalar, 1, 8, [.pv .nilfn]⟩,
  ⟨.scalar, 1, 8, [.pv .nilfn]⟩,
  ⟨.scalar, 1, 8, [.pv .nilfn]⟩,
  ⟨.scalar, 1, 8, [.pv .nilfn]⟩,
  ⟨.scalar, 1, 8, [.pv .nilfn]⟩,
  ⟨.other, 4, 40, []⟩,
  ⟨.other, 4, 40, []⟩,
  ⟨.other, 0, 0, []⟩,
  ⟨.other, 0, 0, []⟩,
  ⟨.other, 0, 0, []⟩,
  ⟨.scalar, 1, 8, [.pv .nilfn]⟩,
  ⟨(.int .u32), 1, 4, [.pv (.int .u32 0)]⟩,
  ⟨(.int .u8), 1, 1, [.pv (.int .u8 0)]⟩,
  ⟨(.int .u8), 1, 1, [.pv (.int .u8 0)]⟩,
  ⟨.scalar, 1, 8, [.pv .nilfn]⟩,
  ⟨.scalar, 1, 8, [.pv (.con (.pointer none))]⟩,
  ⟨(.int .i32), 1, 4, [.pv (.int .i32 0)]⟩,
  ⟨(.int .i32), 1, 4, [.pv (.int .i32 0)]⟩,
  ⟨.other, 11, 48, []⟩,
  ⟨.other, 11, 48, []⟩,
  ⟨.other, 1, 8, []⟩]
def h2 : Hint := ⟨0, ⟨[], [], [], []⟩, [], [], [], []⟩
noncomputable def fi2 : FnI := mkFn Try.f2 h2
def h3 : Hint := ⟨1, ⟨[4, 28], [], [], []⟩, [(6, [0, 4, 5])], [(6, [0, 4])], [(9, [8])], [(4, [0])]⟩
noncomputable def fi3 : FnI := mkFn Try.f3 h3
def h4 : Hint := ⟨1, ⟨[5, 42], [], [], []⟩, [(7, [0, 4, 5, 6])], [(7, [0, 2, 4, 5])], [(15, [10])], [(4, [0]), (11, [0, 4, 5, 6])]⟩
noncomputable def fi4 : FnI := mkFn Try.f4 h4
def h5 : Hint := ⟨2, ⟨[], [], [], []⟩, [], [], [], [(8, [1, 6, 7, 8, 9]), (10, [1, 6, 7, 9])]⟩
noncomputable def fi5 : FnI := mkFn Try.f5 h5
def h6 : Hint := ⟨1, ⟨[4, 28], [], [], []⟩, [(6, [0, 4, 5])], [(6, [0, 4])], [(9, [8])], [(4, [0])]⟩
noncomputable def fi6 : FnI := mkFn Try.f6 h6
def h7 : Hint := ⟨3, ⟨[], [], [], []⟩, [], [], [], [(6, [3, 4, 5, 8, 9]), (8, [3, 4, 5, 8]), (10, [3, 4, 8])]⟩
noncomputable def fi7 : FnI := mkFn Try.f7 h7
def h8 : Hint := ⟨4, ⟨[], [], [], []⟩, [], [], [], [(4, [2, 3, 4, 5]), (7, [3, 4, 5, 10, 11, 12, 13, 14]), (8, [3, 4, 5, 14, 15])]⟩
noncomputable def fi8 : FnI := mkFn Try.f8 h8
def h9 : Hint := ⟨2, ⟨[], [], [], []⟩, [], [], [], [(4, [1, 2]), (7, [1])]⟩
noncomputable def fi9 : FnI := mkFn Try.f9 h9
def h10 : Hint := ⟨2, ⟨[], [], [], []⟩, [(8, [0, 3, 6, 7, 8, 9]), (17, [0, 3, 6, 7, 8, 10]), (20, [0, 3, 6, 7, 8, 10, 11])], [(8, [0, 3, 4, 6, 7, 8]), (17, [0, 3, 4, 6, 7, 8]), (20, [0, 3, 4, 6, 7, 8, 10])], [], [(4, [0, 3]), (12, [0, 3, 6, 7, 8, 9]), (14, [0, 3, 6, 7, 8, 9])]⟩
noncomputable def fi10 : FnI := mkFn Try.f10 h10
def h11 : Hint := ⟨2, ⟨[], [], [], []⟩, [], [], [], [(4, [2, 3]), (9, [2, 3, 6, 7, 8]), (10, [2, 3, 6, 7, 8, 9])]⟩
noncomputable def fi11 : FnI := mkFn Try.f11 h11
def h12 : Hint := ⟨1, ⟨[], [], [], []⟩, [], [], [], [(4, [1]), (7, [1])]⟩
noncomputable def fi12 : FnI := mkFn Try.f12 h12
def h13 : Hint := ⟨2, ⟨[], [], [], []⟩, [], [], [], [(4, [2, 3]), (6, [2, 3])]⟩
noncomputable def fi13 : FnI := mkFn Try.f13 h13
def h14 : Hint := ⟨2, ⟨[], [], [], []⟩, [], [], [], [(4, [0, 3])]⟩
noncomputable def fi14 : FnI := mkFn Try.f14 h14
def h15 : Hint := ⟨2, ⟨[], [], [], []⟩, [(6, [2, 3, 5, 6, 7, 8, 9])], [(6, [2, 3, 4, 5, 6, 7])], [], []⟩
noncomputable def fi15 : FnI := mkFn Try.f15 h15
def h16 : Hint := ⟨2, ⟨[], [], [], []⟩, [], [], [], [(3, [2, 3, 5, 6]), (4, [2, 3, 5, 6, 7])]⟩
noncomputable def fi16 : FnI := mkFn Try.f16 h16
def h17 : Hint := ⟨0, ⟨[], [], [], []⟩, [], [], [], []⟩
noncomputable def fi17 : FnI := mkFn Try.f17 h17
def h18 : Hint := ⟨1, ⟨[], [], [], []⟩, [], [], [], []⟩
noncomputable def fi18 : FnI := mkFn Try.f18 h18
def h19 : Hint := ⟨1, ⟨[], [], [], []⟩, [], [], [], []⟩
noncomputable def fi19 : FnI := mkFn Try.f19 h19
def h20 : Hint := ⟨1, ⟨[], [], [], []⟩, [], [], [], []⟩
noncomputable def fi20 : FnI := mkFn Try.f20 h20
def h21 : Hint := ⟨1, ⟨[], [], [], []⟩, [], [], [], []⟩
noncomputable def fi21 : FnI := mkFn Try.f21 h21
def h22 : Hint := ⟨2, ⟨[], [], [], []⟩, [], [], [], []⟩
noncomputable def fi22 : FnI := mkFn Try.f22 h22
def h23 : Hint := ⟨1, ⟨[], [], [], []⟩, [(6, [2, 3, 4, 5, 14, 15, 16])], [(6, [2, 3, 4, 5])], [], []⟩
noncomputable def fi23 : FnI := mkFn Try.f23 h23
def h24 : Hint := ⟨2, ⟨[], [], [], []⟩, [], [], [], []⟩
noncomputable def fi24 : FnI := mkFn Try.f24 h24
def h25 : Hint := ⟨1, ⟨[], [], [], []⟩, [], [], [], []⟩
noncomputable def fi25 : FnI := mkFn Try.f25 h25
def h26 : Hint := ⟨2, ⟨[], [], [], []⟩, [], [], [], []⟩
noncomputable def fi26 : FnI := mkFn Try.f26 h26
def h27 : Hint := ⟨2, ⟨[], [], [], []⟩, [], [], [], []⟩
noncomputable def fi27 : FnI := mkFn Try.f27 h27
def h28 : Hint := ⟨2, ⟨[2, 3], [], [], []⟩, [], [], [(1, [4, 6]), (2, [4, 6])], []⟩
noncomputable def fi28 : FnI := mkFn Try.f28 h28
def h29 : Hint := ⟨0, ⟨[], [], [], []⟩, [], [], [], []⟩
noncomputable def fi29 : FnI := mkFn Try.f29 h29
def h30 : Hint := ⟨2, ⟨[], [], [], []⟩, [(3, [1, 2, 5, 6])], [(3, [5])], [], [(5, [1, 2, 5, 6])]⟩
noncomputable def fi30 : FnI := mkFn Try.f30 h30
def h31 : Hint := ⟨1, ⟨[4, 5, 22, 36, 74], [], [], []⟩, [(4, [2, 4, 5, 10])], [(4, [2, 3, 4, 5])], [], [(10, [2, 4, 5, 7, 10, 23]), (12, [2, 4, 5, 10, 37]), (17, [2, 4])]⟩
noncomputable def fi31 : FnI := mkFn Try.f31 h31
def h32 : Hint := ⟨1, ⟨[], [], [], []⟩, [], [], [], []⟩
noncomputable def fi32 : FnI := mkFn Try.f32 h32
def h33 : Hint := ⟨1, ⟨[], [], [], []⟩, [], [], [], []⟩
noncomputable def fi33 : FnI := mkFn Try.f33 h33
def h34 : Hint := ⟨1, ⟨[], [], [], []⟩, [(3, [3, 4, 5]), (6, [3, 4, 5, 6])], [(3, [2, 4]), (6, [2, 3, 4, 5])], [], []⟩
noncomputable def fi34 : FnI := mkFn Try.f34 h34
def h35 : Hint := ⟨1, ⟨[], [], [], []⟩, [], [], [], []⟩
noncomputable def fi35 : FnI := mkFn Try.f35 h35
def h36 : Hint := ⟨1, ⟨[], [], [], []⟩, [(8, [4, 5, 6, 7])], [(8, [6])], [], []⟩
noncomputable def fi36 : FnI := mkFn Try.f36 h36
def h37 : Hint := ⟨1, ⟨[], [], [], []⟩, [], [], [], []⟩
noncomputable def fi37 : FnI := mkFn Try.f37 h37
def h38 : Hint := ⟨1, ⟨[], [], [], []⟩, [], [], [], []⟩
noncomputable def fi38 : FnI := mkFn Try.f38 h38
def h39 : Hint := ⟨2, ⟨[], [], [], []⟩, [], [], [], []⟩
noncomputable def fi39 : FnI := mkFn Try.f39 h39
def h40 : Hint := ⟨2, ⟨[], [], [], []⟩, [(4, [2, 3, 5])], [(4, [4])], [], [(3, [2, 3])]⟩
noncomputable def fi40 : FnI := mkFn Try.f40 h40
def h41 : Hint := ⟨1, ⟨[], [], [], []⟩, [(5, [0, 2, 3, 4])], [(5, [2, 3])], [], [(3, [0, 2])]⟩
noncomputable def fi41 : FnI := mkFn Try.f41 h41
def h42 : Hint := ⟨1, ⟨[], [], [], []⟩, [], [], [], [(4, [0, 2, 3])]⟩
noncomputable def fi42 : FnI := mkFn Try.f42 h42
def h43 : Hint := ⟨1, ⟨[], [], [], []⟩, [], [], [], []⟩
noncomputable def fi43 : FnI := mkFn Try.f43 h43
def h44 : Hint := ⟨2, ⟨[], [], [], []⟩, [], [], [], []⟩
noncomputable def fi44 : FnI := mkFn Try.f44 h44
def h45 : Hint := ⟨2, ⟨[], [], [], []⟩, [], [], [], []⟩
noncomputable def fi45 : FnI := mkFn Try.f45 h45
def h46 : Hint := ⟨2, ⟨[], [], [], []⟩, [(4, [0, 1, 5])], [(4, [4])], [], []⟩
noncomputable def fi46 : FnI := mkFn Try.f46 h46
def h47 : Hint := ⟨1, ⟨[3, 27, 60], [], [], []⟩, [(5, [0, 3, 16]), (11, [0, 3, 5]), (15, [0, 3, 5, 40, 41, 42]), (18, [0, 3, 5, 7, 40, 41, 42, 49, 50, 51])], [(5, [0, 3]), (11, [3]), (15, [0, 3, 5]), (18, [0, 3, 5, 40, 41, 42])], [], [(3, [0])]⟩
noncomputable def fi47 : FnI := mkFn Try.f47 h47
def h48 : Hint := ⟨1, ⟨[5, 73], [], [], []⟩, [(6, [3, 4]), (12, [0, 5, 6]), (18, [0, 5, 6, 7, 8, 9]), (21, [0, 5, 6, 7, 8, 9, 10])], [(6, [3]), (12, [5]), (18, [0, 5, 6]), (21, [0, 5, 6, 7, 8, 9])], [], [(3, [0]), (15, [0, 5, 6])]⟩
noncomputable def fi48 : FnI := mkFn Try.f48 h48
def h49 : Hint := ⟨1, ⟨[], [], [], []⟩, [], [], [], []⟩
noncomputable def fi49 : FnI := mkFn Try.f49 h49
def h50 : Hint := ⟨1, ⟨[], [], [], []⟩, [(2, [0, 2, 3])], [(2, [0, 2])], [], []⟩
noncomputable def fi50 : FnI := mkFn Try.f50 h50
def h51 : Hint := ⟨1, ⟨[], [], [], []⟩, [(2, [0, 2, 3])], [(2, [0, 2])], [], []⟩
noncomputable def fi51 : FnI := mkFn Try.f51 h51
def h52 : Hint := ⟨1, ⟨[], [], [], []⟩, [(5, [0, 2, 3, 4, 5, 6])], [(5, [2, 3, 4, 5])], [], [(15, [0, 2, 3, 4, 5, 6, 7, 8]), (23, [2, 3, 4])]⟩
noncomputable def fi52 : FnI := mkFn Try.f52 h52
def h53 : Hint := ⟨1, ⟨[], [], [], []⟩, [], [], [], []⟩
noncomputable def fi53 : FnI := mkFn Try.f53 h53
def h54 : Hint := ⟨1, ⟨[], [], [], []⟩, [], [], [], []⟩
noncomputable def fi54 : FnI := mkFn Try.f54 h54
def h55 : Hint := ⟨1, ⟨[], [], [], []⟩, [], [], [], []⟩
noncomputable def fi55 : FnI := mkFn Try.f55 h55
def h56 : Hint := ⟨2, ⟨[], [], [], []⟩, [], [], [], []⟩
noncomputable def fi56 : FnI := mkFn Try.f56 h56
def h57 : Hint := ⟨2, ⟨[], [], [], []⟩, [], [], [], []⟩
noncomputable def fi57 : FnI := mkFn Try.f57 h57
def h58 : Hint := ⟨1, ⟨[], [], [], []⟩, [], [], [], []⟩
noncomputable def fi58 : FnI := mkFn Try.f58 h58
def h59 : Hint := ⟨2, ⟨[], [], [], []⟩, [], [], [], []⟩
noncomputable def fi59 : FnI := mkFn Try.f59 h59
def h60 : Hint := ⟨2, ⟨[], [], [], []⟩, [], [], [], [(6, [2, 3, 4])]⟩
noncomputable def fi60 : FnI := mkFn Try.f60 h60
def h61 : Hint := ⟨2, ⟨[], [], [], []⟩, [], [], [], [(6, [2, 3, 4])]⟩
noncomputable def fi61 : FnI := mkFn Try.f61 h61
def h62 : Hint := ⟨2, ⟨[], [], [], []⟩, [], [], [], [(6, [2, 3, 4]), (8, [2, 3, 4])]⟩
noncomputable def fi62 : FnI := mkFn Try.f62 h62
def h63 : Hint := ⟨2, ⟨[], [], [], []⟩, [], [], [], [(6, [2, 3, 4])]⟩
noncomputable def fi63 : FnI := mkFn Try.f63 h63
def h64 : Hint := ⟨2, ⟨[], [], [], []⟩, [], [], [], []⟩
noncomputable def fi64 : FnI := mkFn Try.f64 h64
def h65 : Hint := ⟨2, ⟨[], [], [], []⟩, [], [], [], []⟩
noncomputable def fi65 : FnI := mkFn Try.f65 h65
def h66 : Hint := ⟨1, ⟨[], [], [], []⟩, [], [], [], []⟩
noncomputable def fi66 : FnI := mkFn Try.f66 h66
def h67 : Hint := ⟨1, ⟨[], [], [], []⟩, [], [], [], []⟩
noncomputable def fi67 : FnI := mkFn Try.f67 h67
def h68 : Hint := ⟨4, ⟨[], [], [], []⟩, [], [], [], []⟩
noncomputable def fi68 : FnI := mkFn Try.f68 h68
def h69 : Hint := ⟨1, ⟨[], [], [], []⟩, [], [], [], []⟩
noncomputable def fi69 : FnI := mkFn Try.f69 h69
def h70 : Hint := ⟨3, ⟨[], [], [], []⟩, [], [], [], []⟩
noncomputable def fi70 : FnI := mkFn Try.f70 h70
def h71 : Hint := ⟨2, ⟨[], [], [], []⟩, [], [], [], []⟩
noncomputable def fi71 : FnI := mkFn Try.f71 h71
def h72 : Hint := ⟨2, ⟨[], [], [], []⟩, [], [], [], []⟩
noncomputable def fi72 : FnI := mkFn Try.f72 h72
def h73 : Hint := ⟨1, ⟨[], [], [], []⟩, [], [], [], []⟩
noncomputable def fi73 : FnI := mkFn Try.f73 h73
def h74 : Hint := ⟨0, ⟨[], [], [], []⟩, [], [], [], []⟩
noncomputable def fi74 : FnI := mkFn Try.f74 h74
def h76 : Hint := ⟨0, ⟨[], [], [], []⟩, [], [], [], []⟩
noncomputable def fi76 : FnI := mkFn Try.f76 h76
def h77 : Hint := ⟨2, ⟨[], [], [], []⟩, [], [], [], [(5, [0, 1, 6, 7, 8])]⟩
noncomputable def fi77 : FnI := mkFn Try.f77 h77
def h78 : Hint := ⟨2, ⟨[], [], [], []⟩, [], [], [], []⟩
noncomputable def fi78 : FnI := mkFn Try.f78 h78
def h79 : Hint := ⟨1, ⟨[], [], [], []⟩, [], [], [], []⟩
noncomputable def fi79 : FnI := mkFn Try.f79 h79
def h80 : Hint := ⟨2, ⟨[], [], [], []⟩, [], [], [], []⟩
noncomputable def fi80 : FnI := mkFn Try.f80 h80
def h81 : Hint := ⟨2, ⟨[], [], [], []⟩, [], [], [], [(3, [0, 1])]⟩
noncomputable def fi81 : FnI := mkFn Try.f81 h81
def h82 : Hint := ⟨1, ⟨[], [], [], []⟩, [], [], [], []⟩
noncomputable def fi82 : FnI := mkFn Try.f82 h82
def h83 : Hint := ⟨1, ⟨[], [], [], []⟩, [(3, [3, 6, 7, 8])], [(3, [2, 3])], [], []⟩
noncomputable def fi83 : FnI := mkFn Try.f83 h83
def h84 : Hint := ⟨2, ⟨[], [], [], []⟩, [], [], [], []⟩
noncomputable def fi84 : FnI := mkFn Try.f84 h84
def h85 : Hint := ⟨2, ⟨[], [], [], []⟩, [], [], [], [(3, [0, 1, 4]), (4, [0, 1, 4, 25]), (13, [4, 6, 7, 8, 9])]⟩
noncomputable def fi85 : FnI := mkFn Try.f85 h85
def h86 : Hint := ⟨2, ⟨[], [], [], []⟩, [], [], [], [(4, [1, 2, 11]), (7, [2, 6])]⟩
noncomputable def fi86 : FnI := mkFn Try.f86 h86
def h87 : Hint := ⟨2, ⟨[57], [], [], []⟩, [], [], [], [(7, [1, 2])]⟩
noncomputable def fi87 : FnI := mkFn Try.f87 h87
def h88 : Hint := ⟨1, ⟨[], [], [], []⟩, [], [], [], []⟩
noncomputable def fi88 : FnI := mkFn Try.f88 h88
def h89 : Hint := ⟨3, ⟨[], [], [], []⟩, [(4, [1, 2, 15, 16, 17])], [(4, [6])], [], []⟩ -- slices.EqualFunc[[]roadbook/api.Tree,[]roadbook/api.Tree,roadbook/api.Tree,roadbook/api.Tree]
noncomputable def fi89 : FnI := mkFn Try.f89 h89
def h90 : Hint := ⟨1, ⟨[], [], [], []⟩, [], [], [], []⟩
noncomputable def fi90 : FnI := mkFn Try.f90 h90
def h91 : Hint := ⟨1, ⟨[], [], [], []⟩, [(3, [0, 2, 4, 5])], [(3, [2, 3, 4])], [], []⟩
noncomputable def fi91 : FnI := mkFn Try.f91 h91
def h92 : Hint := ⟨1, ⟨[], [], [], []⟩, [], [], [], []⟩
noncomputable def fi92 : FnI := mkFn Try.f92 h92
def h93 : Hint := ⟨1, ⟨[], [], [], []⟩, [], [], [], []⟩
noncomputable def fi93 : FnI := mkFn Try.f93 h93
def h94 : Hint := ⟨2, ⟨[], [], [], []⟩, [], [], [], []⟩
noncomputable def fi94 : FnI := mkFn Try.f94 h94
def h95 : Hint := ⟨2, ⟨[], [], [], []⟩, [], [], [], []⟩ -- slices.ContainsFunc[[]roadbook/api.Val,roadbook/api.Val]
noncomputable def fi95 : FnI := mkFn Try.f95 h95
def h96 : Hint := ⟨2, ⟨[], [], [], []⟩, [], [], [], []⟩
noncomputable def fi96 : FnI := mkFn Try.f96 h96
def h97 : Hint := ⟨1, ⟨[], [], [], []⟩, [], [], [], []⟩
noncomputable def fi97 : FnI := mkFn Try.f97 h97
def h98 : Hint := ⟨2, ⟨[], [], [], []⟩, [(2, [0, 1, 7, 8])], [(2, [4])], [], []⟩ -- slices.IndexFunc[[]roadbook/api.Val,roadbook/api.Val]
noncomputable def fi98 : FnI := mkFn Try.f98 h98
noncomputable def tab : List (Nat × FnI) := [(2, fi2), (3, fi3), (4, fi4), (5, fi5), (6, fi6), (7, fi7), (8, fi8), (9, fi9), (10, fi10), (11, fi11), (12, fi12), (13, fi13), (14, fi14), (15, fi15), (16, fi16), (17, fi17), (18, fi18), (19, fi19), (20, fi20), (21, fi21), (22, fi22), (23, fi23), (24, fi24), (25, fi25), (26, fi26), (27, fi27), (28, fi28), (29, fi29), (30, fi30), (31, fi31), (32, fi32), (33, fi33), (34, fi34), (35, fi35), (36, fi36), (37, fi37), (38, fi38), (39, fi39), (40, fi40), (41, fi41), (42, fi42), (43, fi43), (44, fi44), (45, fi45), (46, fi46), (47, fi47), (48, fi48), (49, fi49), (50, fi50), (51, fi51), (52, fi52), (53, fi53), (54, fi54), (55, fi55), (56, fi56), (57, fi57), (58, fi58), (59, fi59), (60, fi60), (61, fi61), (62, fi62), (63, fi63), (64, fi64), (65, fi65), (66, fi66), (67, fi67), (68, fi68), (69, fi69), (70, fi70), (71, fi71), (72, fi72), (73, fi73), (74, fi74), (76, fi76), (77, fi77), (78, fi78), (79, fi79), (80, fi80), (81, fi81), (82, fi82), (83, fi83), (84, fi84), (85, fi85), (86, fi86), (87, fi87), (88, fi88), (89, fi89), (90, fi90), (91, fi91), (92, fi92), (93, fi93), (94, fi94), (95, fi95), (96, fi96), (97, fi97), (98, fi98)]
noncomputable def etab : List (Nat × ExtF) := []
noncomputable def cfg : Cfg := ⟨ty, lookF tab, lookE etab⟩
theorem tys : tysB Try.prog cfg = true := by kernel_rfl
theorem fns : AllF Try.prog cfg tab := ⟨fnB_ok Try.func2 (by kernel_rfl), fnB_ok Try.func3 (by kernel_rfl), fnB_ok Try.func4 (by kernel_rfl), fnB_ok Try.func5 (by kernel_rfl), fnB_ok Try.func6 (by kernel_rfl), fnB_ok Try.func7 (by kernel_rfl), fnB_ok Try.func8 (by kernel_rfl), fnB_ok Try.func9 (by kernel_rfl), fnB_ok Try.func10 (by kernel_rfl), fnB_ok Try.func11 (by kernel_rfl), fnB_ok Try.func12 (by kernel_rfl), fnB_ok Try.func13 (by kernel_rfl), fnB_ok Try.func14 (by kernel_rfl), fnB_ok Try.func15 (by kernel_rfl), fnB_ok Try.func16 (by kernel_rfl), fnB_ok Try.func17 (by kernel_rfl), fnB_ok Try.func18 (by kernel_rfl), fnB_ok Try.func19 (by kernel_rfl), fnB_ok Try.func20 (by kernel_rfl), fnB_ok Try.func21 (by kernel_rfl), fnB_ok Try.func22 (by kernel_rfl), fnB_ok Try.func23 (by kernel_rfl), fnB_ok Try.func24 (by kernel_rfl), fnB_ok Try.func25 (by kernel_rfl), fnB_ok Try.func26 (by kernel_rfl), fnB_ok Try.func27 (by kernel_rfl), fnB_ok Try.func28 (by kernel_rfl), fnB_ok Try.func29 (by kernel_rfl), fnB_ok Try.func30 (by kernel_rfl), fnB_ok Try.func31 (by kernel_rfl), fnB_ok Try.func32 (by kernel_rfl), fnB_ok Try.func33 (by kernel_rfl), fnB_ok Try.func34 (by kernel_rfl), fnB_ok Try.func35 (by kernel_rfl), fnB_ok Try.func36 (by kernel_rfl), fnB_ok Try.func37 (by kernel_rfl), fnB_ok Try.func38 (by kernel_rfl), fnB_ok Try.func39 (by kernel_rfl), fnB_ok Try.func40 (by kernel_rfl), fnB_ok Try.func41 (by kernel_rfl), fnB_ok Try.func42 (by kernel_rfl), fnB_ok Try.func43 (by kernel_rfl), fnB_ok Try.func44 (by kernel_rfl), fnB_ok Try.func45 (by kernel_rfl), fnB_ok Try.func46 (by kernel_rfl), fnB_ok Try.func47 (by kernel_rfl), fnB_ok Try.func48 (by kernel_rfl), fnB_ok Try.func49 (by kernel_rfl), fnB_ok Try.func50 (by kernel_rfl), fnB_ok Try.func51 (by kernel_rfl), fnB_ok Try.func52 (by kernel_rfl), fnB_ok Try.func53 (by kernel_rfl), fnB_ok Try.func54 (by kernel_rfl), fnB_ok Try.func55 (by kernel_rfl), fnB_ok Try.func56 (by kernel_rfl), fnB_ok Try.func57 (by kernel_rfl), fnB_ok Try.func58 (by kernel_rfl), fnB_ok Try.func59 (by kernel_rfl), fnB_ok Try.func60 (by kernel_rfl), fnB_ok Try.func61 (by kernel_rfl), fnB_ok Try.func62 (by kernel_rfl), fnB_ok Try.func63 (by kernel_rfl), fnB_ok Try.func64 (by kernel_rfl), fnB_ok Try.func65 (by kernel_rfl), fnB_ok Try.func66 (by kernel_rfl), fnB_ok Try.func67 (by kernel_rfl), fnB_ok Try.func68 (by kernel_rfl), fnB_ok Try.func69 (by kernel_rfl), fnB_ok Try.func70 (by kernel_rfl), fnB_ok Try.func71 (by kernel_rfl), fnB_ok Try.func72 (by kernel_rfl), fnB_ok Try.func73 (by kernel_rfl), fnB_ok Try.func74 (by kernel_rfl), fnB_ok Try.func76 (by kernel_rfl), fnB_ok Try.func77 (by kernel_rfl), fnB_ok Try.func78 (by kernel_rfl), fnB_ok Try.func79 (by kernel_rfl), fnB_ok Try.func80 (by kernel_rfl), fnB_ok Try.func81 (by kernel_rfl), fnB_ok Try.func82 (by kernel_rfl), fnB_ok Try.func83 (by kernel_rfl), fnB_ok Try.func84 (by kernel_rfl), fnB_ok Try.func85 (by kernel_rfl), fnB_ok Try.func86 (by kernel_rfl), fnB_ok Try.func87 (by kernel_rfl), fnB_ok Try.func88 (by kernel_rfl), fnB_ok Try.func89 (by kernel_rfl), fnB_ok Try.func90 (by kernel_rfl), fnB_ok Try.func91 (by kernel_rfl), fnB_ok Try.func92 (by kernel_rfl), fnB_ok Try.func93 (by kernel_rfl), fnB_ok Try.func94 (by kernel_rfl), fnB_ok Try.func95 (by kernel_rfl), fnB_ok Try.func96 (by kernel_rfl), fnB_ok Try.func97 (by kernel_rfl), fnB_ok Try.func98 (by kernel_rfl), trivial⟩
theorem exts : ∀ f g, cfg.ext f = some g → ExtOK Try.prog f g := fun f g h => by cases h
end Go.Cf

namespace Go.Cf
open Go Go.Ab
set_option linter.unusedVariables false
set_option maxRecDepth 100000
def n_main_main : Nat := 0
def n_gosem_cut : Nat := 1
def n_gosem_cut_init : Nat := 2
def n_roadbooklaw01_ValMorgan : Nat := 3
def n_roadbooklaw01_ValSum : Nat := 4
def n_roadbooklaw01_ValBack : Nat := 5
def n_roadbooklaw01_ValTurned : Nat := 6
def n_roadbooklaw01_ValOrder : Nat := 7
def n_roadbooklaw06_TreeTells : Nat := 8
def n_roadbooklaw06_TreeBack : Nat := 9
def n_roadbooklaw06_TreeAll : Nat := 10
def n_roadbooklaw06_TreeJoin : Nat := 11
def n_roadbooklaw06_TreeParts : Nat := 12
def n_roadbooklaw06_TreeText : Nat := 13
def n_roadbooklaw01_ValThree : Nat := 14
def n_roadbooklaw01_ValFew : Nat := 15
def n_roadbooklaw01_ValReckons : Nat := 16
def n_roadbooklaw01_awake : Nat := 17
def n_val_Not : Nat := 18
def n_val_And : Nat := 19
def n_val_Or : Nat := 20
def n_val_Of : Nat := 21
def n_val_Add : Nat := 22
def n_val_Sum : Nat := 23
def n_val_Mul : Nat := 24
def n_val_May : Nat := 25
def n_val_Sub : Nat := 26
def n_val_Div : Nat := 27
def n_val_Less : Nat := 28
def n_roadbooklaw06_awake : Nat := 29
def n_roadbookref06_Size : Nat := 30
def n_tree_Read : Nat := 31
def n_roadbookref06_Read : Nat := 32
def n_tree_May : Nat := 33
def n_roadbookref06_May : Nat := 34
def n_tree_Set : Nat := 35
def n_roadbookref06_Set : Nat := 36
def n_tree_Text : Nat := 37
def n_roadbookref06_Text : Nat := 38
def n_tree_Same : Nat := 39
def n_roadbookref06_Same : Nat := 40
def n_tree_First : Nat := 41
def n_roadbookref06_First : Nat := 42
def n_tree_Leaf : Nat := 43
def n_tree_Join : Nat := 44
def n_roadbookref06_Join : Nat := 45
def n_roadbookref06_Lists : Nat := 46
def n_tree_All : Nat := 47
def n_roadbookref06_All : Nat := 48
def n_roadbookref06_Leaves : Nat := 49
def n_roadbookref01_And : Nat := 50
def n_roadbookref01_Or : Nat := 51
def n_roadbookref01_Sum : Nat := 52
def n_roadbookref01_Not : Nat := 53
def n_val_True : Nat := 54
def n_roadbookref01_True : Nat := 55
def n_val_Eq : Nat := 56
def n_val_Lt : Nat := 57
def n_roadbookref01_May : Nat := 58
def n_roadbookref01_Less : Nat := 59
def n_roadbookref01_Add : Nat := 60
def n_roadbookref01_Sub : Nat := 61
def n_roadbookref01_Mul : Nat := 62
def n_roadbookref01_Div : Nat := 63
def n_roadbookref01_Eq : Nat := 64
def n_roadbookref01_Lt : Nat := 65
def n_val_odd : Nat := 66
def n_val_of : Nat := 67
def n_val_three : Nat := 68
def n_val_isFalse : Nat := 69
def n_val_reckon : Nat := 70
def n_val_Add_1 : Nat := 71
def n_val_some_api_Val : Nat := 72
def n_val_kind : Nat := 73
def n_val_bad : Nat := 74
def n_bits_Add64 : Nat := 75
def n_val_null : Nat := 76
def n_val_Mul_1 : Nat := 77
def n_bits_Mul64 : Nat := 78
def n_val_size : Nat := 79
def n_val_Sub_1 : Nat := 80
def n_val_Div_1 : Nat := 81
def n_val_fine : Nat := 82
def n_cmp_Or_int : Nat := 83
def n_cmp_Compare_int : Nat := 84
def n_roadbookref06_part : Nat := 85
def n_tree_set : Nat := 86
def n_roadbookref06_leaves : Nat := 87
def n_tree_text : Nat := 88
def n_slices_EqualFunc_api_Tree_api_Tree_api_Tree_api_Tree : Nat := 89
def n_roadbookref06_many : Nat := 90
def n_roadbookref01_odd : Nat := 91
def n_roadbookref01_fine : Nat := 92
def n_roadbookref01_one : Nat := 93
def n_roadbookref01_two : Nat := 94
def n_slices_ContainsFunc_api_Val_api_Val : Nat := 95
def n_val_kind_1 : Nat := 96
def n_cmp_isNaN_int : Nat := 97
def n_slices_IndexFunc_api_Val_api_Val : Nat := 98
def n_runtime_boundsError_Error : Nat := 99
def n_runtime_boundsError_RuntimeError : Nat := 100
def n_runtime_errorString_Error : Nat := 101
def n_runtime_errorString_RuntimeError : Nat := 102
def n_runtime_plainError_Error : Nat := 103
def n_runtime_plainError_RuntimeError : Nat := 104
def n_runtime_errorAddressString_Error : Nat := 105
def n_runtime_errorAddressString_RuntimeError : Nat := 106
def n_runtime_TypeAssertionError_Error : Nat := 107
def n_runtime_TypeAssertionError_RuntimeError : Nat := 108
def n_runtime_PanicNilError_Error : Nat := 109
def n_runtime_PanicNilError_RuntimeError : Nat := 110
def n_abi_Type_Align : Nat := 111
def n_maps_unhashableTypeError_Error : Nat := 112
def n_maps_unhashableTypeError_RuntimeError : Nat := 113
def n_abi_Kind_String : Nat := 114
def t_int64 : Nat := 2
def t_int : Nat := 3
def t_bool : Nat := 4
def t_uint8 : Nat := 5
def t_abi_BoundsErrorCode : Nat := 6
def t_struct_x_int64_y_int_signed_bool_code_abi_BoundsErrorCode : Nat := 7
def t_runtime_boundsError : Nat := 8
def t_string : Nat := 9
def t_runtime_errorString : Nat := 10
def t_runtime_plainError : Nat := 11
def t_uintptr : Nat := 12
def t_struct_msg_string_addr_uintptr : Nat := 13
def t_runtime_errorAddressString : Nat := 14
def t_runtime_TypeAssertionError : Nat := 15
def t_runtime_PanicNilError : Nat := 16
def t_abi_Type : Nat := 17
def t_struct_typ_abi_Type : Nat := 18
def t_maps_unhashableTypeError : Nat := 19
def t_int32 : Nat := 21
def t_s_api_Val : Nat := 22
def t_struct_K_int_N_int : Nat := 24
def t_api_Val : Nat := 25
def t_s_int : Nat := 29
def t_s_api_Tree : Nat := 37
def t_struct_Occ_int_L_s_api_Tree : Nat := 38
def t_api_Tree : Nat := 39
def t_uint64 : Nat := 66
def t_uint : Nat := 69
def t_s_uint8 : Nat := 80
def t_s_string : Nat := 82
def t_struct__interface_abi_Type_concrete_abi_Type_asserted_abi_Type_missingMethod_string : Nat := 89
def t_a0__runtime_PanicNilError : Nat := 91
def t_struct___a0__runtime_PanicNilError : Nat := 92
def t_uint32 : Nat := 95
def t_abi_TFlag : Nat := 96
def t_abi_Kind : Nat := 97
def t_abi_NameOff : Nat := 100
def t_abi_TypeOff : Nat := 101
def t_struct_Size__uintptr_PtrBytes_uintptr_Hash_uint32_TFlag_abi_TFlag_Align__uint8_FieldAlign__uint8_Kind__abi_Kind_Equal_func_unsafe_Pointer_unsafe_Pointer_bool_GCData_uint8_Str_abi_NameOff_PtrToThis_abi_TypeOff : Nat := 102
def t_unsafe_Pointer : Nat := 104
theorem exW : ∃ W : Wf, W = evw cfg := ⟨_, rfl⟩
noncomputable def W : Wf := Classical.choose exW
theorem W_eq : W = evw cfg := Classical.choose_spec exW
theorem exT (fi : FnI) {R : Type} (fin : Ex → St → Option R) : ∃ jl : Jn R × Ln R, Tied cfg W fi fin jl.1 jl.2 := ⟨(_, _), tied cfg W fi fin⟩
theorem wq {f : FuncId} {fi : FnI} (he : cfg.ext f = none) (hf : cfg.fn f = some fi) (args : List PV) : wc W f args = body cfg W lpw fi args := by rw [W_eq]; exact evw_eq he hf args
theorem wqO {f : FuncId} {fi : FnI} (he : cfg.ext f = none) (hf : cfg.fn f = some fi) (raw : Bool) (args : List AV) (ow : List Ob) : W f raw args ow = bodyO cfg W lpw fi raw args ow := by rw [W_eq]; exact evw_eqO he hf raw args ow
theorem go {f : FuncId} {fi : FnI} {args : List PV} {r : Option PV} {jn : Jn PV} {ln : Ln PV} (he : cfg.ext f = none) (hf : cfg.fn f = some fi) (h : Tied cfg W fi (fin cfg fi) jn ln) (e : (bif args.length == fi.np then Gf cfg W fi jn ln fi.code [] ⟨args0 0 args, []⟩ (fin cfg fi) else none) = r) : wc W f args = r := (wq he hf args).trans ((h.body args).trans e)
theorem goO {f : FuncId} {fi : FnI} {raw : Bool} {n : Nat} {args : List AV} {ow : List Ob} {r : Option (AV × List Ob)} {jn : Jn (AV × List Ob)} {ln : Ln (AV × List Ob)} (he : cfg.ext f = none) (hf : cfg.fn f = some fi) (h : Tied cfg W fi (finO cfg fi raw n) jn ln) (hn : ow.length = n) (e : (bif args.length == fi.np then Gf cfg W fi jn ln fi.code [] ⟨args0A 0 args, ow⟩ (finO cfg fi raw n) else none) = r) : W f raw args ow = r := (wqO he hf raw args ow).trans ((h.bodyO args ow hn).trans e)
def c_b {R : Type} (p : PV) (K : Bool → Option R) : Option R := (PV.asBool p).bind fun zzx0 => K zzx0
@[simp] theorem c_b_mk (zzx0 : Bool) {R : Type} (K : Bool → Option R) : c_b (PV.bool zzx0) K = K zzx0 := rfl
def c_g_i64_s3 {R : Type} (p : PV) (K : Int → List PV → Option R) : Option R := (PV.asAgg p).bind fun c0 => (c0[0]?).bind fun p1 => (PV.asIntK .i64 p1).bind fun zzx2 => (c0[1]?).bind fun p3 => (PV.asSlice 3 p3).bind fun zzx4 => bif c0.length == 2 then (K zzx2 zzx4) else none
@[simp] theorem c_g_i64_s3_mk (zzx2 : Int) (zzx4 : List PV) {R : Type} (K : Int → List PV → Option R) : c_g_i64_s3 (PV.agg [(PV.int .i64 zzx2), (PV.slice 3 zzx4)]) K = K zzx2 zzx4 := rfl
def c_i64 {R : Type} (p : PV) (K : Int → Option R) : Option R := (PV.asIntK .i64 p).bind fun zzx0 => K zzx0
@[simp] theorem c_i64_mk (zzx0 : Int) {R : Type} (K : Int → Option R) : c_i64 (PV.int .i64 zzx0) K = K zzx0 := rfl
def c_s0 {R : Type} (p : PV) (K : List PV → Option R) : Option R := (PV.asSlice 0 p).bind fun zzx0 => K zzx0
@[simp] theorem c_s0_mk (zzx0 : List PV) {R : Type} (K : List PV → Option R) : c_s0 (PV.slice 0 zzx0) K = K zzx0 := rfl
def c_s3 {R : Type} (p : PV) (K : List PV → Option R) : Option R := (PV.asSlice 3 p).bind fun zzx0 => K zzx0
@[simp] theorem c_s3_mk (zzx0 : List PV) {R : Type} (K : List PV → Option R) : c_s3 (PV.slice 3 zzx0) K = K zzx0 := rfl
def c_t {R : Type} (p : PV) (K : ByteArray → Option R) : Option R := (PV.asStr p).bind fun zzx0 => K zzx0
@[simp] theorem c_t_mk (zzx0 : ByteArray) {R : Type} (K : ByteArray → Option R) : c_t (PV.str zzx0) K = K zzx0 := rfl
end Go.Cf

namespace Go.Cf
open Go Go.Ab
set_option linter.unusedVariables false
def I64 (n : Int) : Prop := -9223372036854775808 ≤ n ∧ n ≤ 9223372036854775807
theorem wrap64 {n : Int} (h1 : -9223372036854775808 ≤ n) (h2 : n ≤ 9223372036854775807) : IntKind.wrap .i64 n = n := by
  simp only [IntKind.wrap, IntKind.bits, IntKind.signed]
  simp
  omega
theorem wrapI {n : Int} (h : I64 n) : IntKind.wrap .i64 n = n := wrap64 h.1 h.2
theorem wrap_nat {n : Nat} (h : n ≤ 9223372036854775807) : IntKind.wrap .i64 (n : Int) = n := wrap64 (by omega) (by omega)
theorem wrap_succ {n : Nat} (h : n < 9223372036854775807) : IntKind.wrap .i64 ((n : Int) + 1) = ((n + 1 : Nat) : Int) := by rw [wrap64 (by omega) (by omega)]; omega
@[simp] theorem asTup_mk (l : List PV) : PV.asTup (.tup l) = some l := rfl
@[simp] theorem asFn_mk (f : Nat) (a b : List PV) : PV.asFn (.fn f a b) = some (f, a, b) := rfl
@[simp] theorem nat_le (n : Nat) : decide ((0 : Int) ≤ (n : Int)) = true := by simp
theorem wf_i64 {n : Int} (h : (Lit.int .i64 n).wf = true) : I64 n := by
  simp only [Lit.wf, Bool.and_eq_true, decide_eq_true_eq] at h
  exact h
theorem bif_t {α : Type} (a b : α) : (bif true then a else b) = a := rfl
theorem bif_f {α : Type} (a b : α) : (bif false then a else b) = b := rfl
theorem toList_beq (a b : ByteArray) : (a.toList == b.toList) = decide (a = b) := by
  by_cases h : a = b
  · subst h; simp
  · rw [decide_eq_false h]
    simp only [beq_eq_false_iff_ne, ne_eq]
    intro e
    apply h
    have : a.data.toList = b.data.toList := by
      have e1 : ∀ x : ByteArray, x.toList = x.data.toList := fun x => ByteArray.toList_eq x
      rw [← e1, ← e1, e]
    cases a; cases b; simp_all
theorem loop_all {R : Type} (L : Int → Option R) (n : Nat) (p : Nat → Bool) (r s : Option R) (hs : ∀ i : Nat, i < n → L (i : Int) = bif p i then L ((i : Int) + 1) else r) (he : L (n : Int) = s) :
    L 0 = bif (List.range n).all p then s else r := by
  have : ∀ k i : Nat, i + k = n → L (i : Int) = bif (List.range' i k).all p then s else r := by
    intro k
    induction k with
    | zero => intro i h; simp at h; subst h; simpa using he
    | succ k ih =>
      intro i h
      rw [hs i (by omega), show ((i : Int) + 1) = ((i + 1 : Nat) : Int) by omega, ih (i + 1) (by omega), List.range'_succ, List.all_cons]
      cases p i <;> simp
  have h0 := this n 0 (by omega)
  rw [List.range_eq_range']
  exact h0
theorem all_get {α : Type} (l : List α) (q : α → Bool) : ((List.range l.length).all fun i => (l[i]?).all q) = l.all q := by
  rw [Bool.eq_iff_iff, List.all_eq_true, List.all_eq_true]
  constructor
  · intro h x hx
    obtain ⟨i, hi, rfl⟩ := List.mem_iff_getElem.1 hx
    have := h i (by simpa using hi)
    simpa [List.getElem?_eq_getElem hi] using this
  · intro h i hi
    have hi' : i < l.length := by simpa using hi
    simpa [List.getElem?_eq_getElem hi'] using h _ (List.getElem_mem hi')
theorem lt_len {i n : Nat} (h : i < n) : decide ((i : Int) < (n : Int)) = true := by simpa using h
theorem ge_len {n : Nat} : decide ((n : Int) < (n : Int)) = false := by simp
theorem bne_t {α : Type} [BEq α] [LawfulBEq α] {a b : α} (h : a ≠ b) : (a != b) = true := by simpa using h
theorem bne_f {α : Type} [BEq α] [LawfulBEq α] {a b : α} (h : a = b) : (a != b) = false := by simpa using h
theorem beq_t {α : Type} [BEq α] [LawfulBEq α] {a b : α} (h : a = b) : (a == b) = true := by simpa using h
theorem beq_f {α : Type} [BEq α] [LawfulBEq α] {a b : α} (h : a ≠ b) : (a == b) = false := by simpa using h
theorem all_eq {α : Type} [DecidableEq α] (a b : List α) (e : a.length = b.length) : ((List.range a.length).all fun i => decide (a[i]? = b[i]?)) = decide (a = b) := by
  by_cases hab : a = b
  · subst hab; simp
  · rw [decide_eq_false hab, Bool.eq_false_iff]
    intro hall
    apply hab
    rw [List.all_eq_true] at hall
    apply List.ext_getElem?
    intro i
    by_cases hi : i < a.length
    · simpa using hall i (by simpa using hi)
    · rw [List.getElem?_eq_none (by omega), List.getElem?_eq_none (by omega)]
end Go.Cf
