/- Part 10 of the proof: an abstract machine that runs the program's code over plain values, its soundness, and what the functions tell of plain values. Conditions: those in each theorem. -/
import Derived.Test.YtgebkpchpliahaaA8
import Derived.Test.YtgebkpchpliahaaProg
namespace Go.Cf
open Go Go.Ab Go.Proofs
set_option maxRecDepth 100000
def ty : List TyI := [⟨.other, 1, 0, []⟩,
  ⟨.scalar, 1, 8, [.pv .nilfn]⟩,
  ⟨(.int .i64), 1, 8, [.pv (.int .i64 0)]⟩,
  ⟨(.int .i64), 1, 8, [.pv (.int .i64 0)]⟩,
  ⟨.bool, 1, 1, [.pv (.bool false)]⟩,
  ⟨(.int .u8), 1, 1, [.pv (.int .u8 0)]⟩,
  ⟨(.int .u8), 1, 1, [.pv (.int .u8 0)]⟩,
  ⟨(.struct [(2, 0), (3, 1), (4, 2), (6, 3)]), 4, 24, [.pv (.int .i64 0), .pv (.int .i64 0), .pv (.bool false), .pv (.int .u8 0)]⟩,
  ⟨(.struct [(2, 0), (3, 1), (4, 2), (6, 3)]), 4, 24, [.pv (.int .i64 0), .pv (.int .i64 0), .pv (.bool false), .pv (.int .u8 0)]⟩,
  ⟨.str, 1, 16, [.pv (.str ⟨#[]⟩)]⟩,
  ⟨.str, 1, 16, [.pv (.str ⟨#[]⟩)]⟩,
  ⟨.str, 1, 16, [.pv (.str ⟨#[]⟩)]⟩,
  ⟨(.int .u64), 1, 8, [.pv (.int .u64 0)]⟩,
  ⟨.other, 2, 24, []⟩,
  ⟨.other, 2, 24, []⟩,
  ⟨.scalar, 1, 8, [.pv (.con (.pointer none))]⟩,
  ⟨.scalar, 1, 8, [.pv (.con (.pointer none))]⟩,
  ⟨.scalar, 1, 8, [.pv (.con (.pointer none))]⟩,
  ⟨.other, 1, 8, []⟩,
  ⟨.other, 1, 8, []⟩,
  ⟨.scalar, 1, 16, [.pv (.con .nilIface)]⟩,
  ⟨(.int .i32), 1, 4, [.pv (.int .i32 0)]⟩,
  ⟨(.slice 63), 1, 24, [.nil 3]⟩,
  ⟨(.struct [(22, 0)]), 1, 24, [.nil 3]⟩,
  ⟨(.struct [(22, 0)]), 1, 24, [.nil 3]⟩,
  ⟨(.slice 31), 1, 24, [.nil 0]⟩,
  ⟨(.struct [(25, 0)]), 1, 24, [.nil 0]⟩,
  ⟨(.struct [(25, 0)]), 1, 24, [.nil 0]⟩,
  ⟨.scalar, 1, 8, [.pv .nilfn]⟩,
  ⟨.scalar, 1, 8, [.pv .nilfn]⟩,
  ⟨.scalar, 1, 8, [.pv .nilfn]⟩,
  ⟨(.slice 32), 1, 24, [.nil 0]⟩,
  ⟨(.slice 34), 1, 24, [.nil 3]⟩,
  ⟨(.struct [(3, 0), (3, 1)]), 2, 16, [.pv (.int .i64 0), .pv (.int .i64 0)]⟩,
  ⟨(.struct [(3, 0), (3, 1)]), 2, 16, [.pv (.int .i64 0), .pv (.int .i64 0)]⟩,
  ⟨.scalar, 1, 8, [.pv .nilfn]⟩,
  ⟨.scalar, 1, 8, [.pv .nilfn]⟩,
  ⟨.scalar, 1, 8, [.pv .nilfn]⟩,
  ⟨.other, 1, 0, []⟩,
  ⟨.scalar, 1, 8, [.pv .nilfn]⟩,
  ⟨.scalar, 1, 8, [.pv .nilfn]⟩,
  ⟨(.slice 3), 1, 24, [.nil 0]⟩,
  ⟨(.struct [(41, 0), (31, 1)]), 2, 48, [.nil 0, .nil 0]⟩,
  ⟨(.struct [(41, 0), (31, 1)]), 2, 48, [.nil 0, .nil 0]⟩,
  ⟨.other, 1, 0, []⟩,
  ⟨.scalar, 1, 8, [.pv .nilfn]⟩,
  ⟨.other, 1, 0, []⟩,
  ⟨.scalar, 1, 8, [.pv .nilfn]⟩,
  ⟨.scalar, 1, 8, [.pv .nilfn]⟩,
  ⟨.scalar, 1, 8, [.pv .nilfn]⟩,
  ⟨.scalar, 1, 8, [.pv .nilfn]⟩,
  ⟨.scalar, 1, 8, [.pv .nilfn]⟩,
  ⟨.scalar, 1, 8, [.pv .nilfn]⟩,
  ⟨.scalar, 1, 8, [.pv .nilfn]⟩,
  ⟨.scalar, 1, 8, [.pv .nilfn]⟩,
  ⟨.scalar, 1, 8, [.pv .nilfn]⟩,
  ⟨.scalar, 1, 8, [.pv .nilfn]⟩,
  ⟨.scalar, 1, 8, [.pv .nilfn]⟩,
  ⟨.scalar, 1, 8, [.pv .nilfn]⟩,
  ⟨.other, 1, 0, []⟩,
  ⟨.scalar, 1, 8, [.pv .nilfn]⟩,
  ⟨.scalar, 1, 8, [.pv .nilfn]⟩,
  ⟨(.struct [(3, 0), (3, 1)]), 2, 16, [.pv (.int .i64 0), .pv (.int .i64 0)]⟩,
  ⟨(.struct [(3, 0), (3, 1)]), 2, 16, [.pv (.int .i64 0), .pv (.int .i64 0)]⟩,
  ⟨.scalar, 1, 8, [.pv .nilfn]⟩,
  ⟨.scalar, 1, 8, [.pv .nilfn]⟩,
  ⟨.scalar, 1, 8, [.pv .nilfn]⟩,
  ⟨.scalar, 1, 8, [.pv .nilfn]⟩,
  ⟨.scalar, 1, 8, [.pv .nilfn]⟩,
  ⟨.scalar, 1, 8, [.pv .nilfn]⟩,
  ⟨.scalar, 1, 8, [.pv .nilfn]⟩,
  ⟨.scalar, 1, 8, [.pv .nilfn]⟩,
  ⟨.scalar, 1, 8, [.pv .nilfn]⟩,
  ⟨.scalar, 1, 8, [.pv .nilfn]⟩,
  ⟨(.arr 16 4), 16, 16, [.pv (.bool false), .pv (.bool false), .pv (.bool false), .pv (.bool false), .pv (.bool false), .pv (.bool false), .pv (.bool false), .pv (.bool false), .pv (.bool false), .pv (.bool false), .pv (.bool false), .pv (.bool false), .pv (.bool false), .pv (.bool false), .pv (.bool false), .pv (.bool false)]⟩,
  ⟨.scalar, 1, 8, [.pv .nilfn]⟩,
  ⟨.scalar, 1, 8, [.pv .nilfn]⟩,
  ⟨.scalar, 1, 8, [.pv .nilfn]⟩,
  ⟨.scalar, 1, 8, [.pv .nilfn]⟩,
  ⟨.scalar, 1, 8, [.pv .nilfn]⟩,
  ⟨.scalar, 1, 8, [.pv .nilfn]⟩,
  ⟨(.map 84 31), 1, 8, [.pv (.con (.map none))]⟩,
  ⟨(.slice 84), 1, 24, [.nil 3]⟩,
  ⟨(.arr 2 3), 2, 16, [.pv (.int .i64 0), .pv (.int .i64 0)]⟩,
  ⟨(.arr 2 3), 2, 16, [.pv (.int .i64 0), .pv (.int .i64 0)]⟩,
  ⟨.scalar, 1, 8, [.pv .nilfn]⟩,
  ⟨.scalar, 1, 8, [.pv .nilfn]⟩,
  ⟨.scalar, 1, 8, [.pv .nilfn]⟩,
  ⟨.scalar, 1, 8, [.pv .nilfn]⟩,
  ⟨.scalar, 1, 8, [.pv .nilfn]⟩,
  ⟨.scalar, 1, 8, [.pv .nilfn]⟩,
  ⟨.scalar, 1, 8, [.pv .nilfn]⟩,
  ⟨.scalar, 1, 8, [.pv .nilfn]⟩,
  ⟨.scalar, 1, 8, [.pv .nilfn]⟩,
  ⟨.scalar, 1, 8, [.pv .nilfn]⟩,
  ⟨.scalar, 1, 8, [.pv .nilfn]⟩,
  ⟨(.slice 99), 1, 24, [.nil 6]⟩,
  ⟨.scalar, 1, 8, [.pv .nilfn]⟩,
  ⟨(.struct [(3, 0), (3, 1), (34, 2), (96, 4)]), 5, 56, [.pv (.int .i64 0), .pv (.int .i64 0), .pv (.int .i64 0), .pv (.int .i64 0), .nil 6]⟩,
  ⟨(.struct [(3, 0), (3, 1), (34, 2), (96, 4)]), 5, 56, [.pv (.int .i64 0), .pv (.int .i64 0), .pv (.int .i64 0), .pv (.int .i64 0), .nil 6]⟩,
  ⟨.scalar, 1, 8, [.pv .nilfn]⟩,
  ⟨.scalar, 1, 8, [.pv .nilfn]⟩,
  ⟨(.slice 41), 1, 24, [.nil 0]⟩,
  ⟨.scalar, 1, 8, [.pv .nilfn]⟩,
  ⟨.scalar, 1, 8, [.pv .nilfn]⟩,
  ⟨.scalar, 1, 8, [.pv .nilfn]⟩,
  ⟨.scalar, 1, 8, [.pv .nilfn]⟩,
  ⟨.scalar, 1, 8, [.pv .nilfn]⟩,
  ⟨.scalar, 1, 8, [.pv .nilfn]⟩,
  ⟨(.int .u64), 1, 8, [.pv (.int .u64 0)]⟩,
  ⟨.scalar, 1, 8, [.pv .nilfn]⟩,
  ⟨.scalar, 1, 8, [.pv .nilfn]⟩,
  ⟨.scalar, 1, 8, [.pv .nilfn]⟩,
  ⟨(.int .u64), 1, 8, [.pv (.int .u64 0)]⟩,
  ⟨.other, 1, 0, []⟩,
  ⟨.scalar, 1, 8, [.pv .nilfn]⟩,
  ⟨.scalar, 1, 8, [.pv .nilfn]⟩,
  ⟨.scalar, 1, 8, [.pv .nilfn]⟩,
  ⟨.scalar, 1, 8, [.pv .nilfn]⟩,
  ⟨.scalar, 1, 8, [.pv .nilfn]⟩,
  ⟨.scalar, 1, 8, [.pv .nilfn]⟩,
  ⟨.scalar, 1, 8, [.pv .nilfn]⟩,
  ⟨(.int .i64), 1, 8, [.pv (.int .i64 0)]⟩,
  ⟨.other, 1, 0, []⟩,
  ⟨.scalar, 1, 8, [.pv .nilfn]⟩,
  ⟨.scalar, 1, 8, [.pv .nilfn]⟩,
  ⟨.scalar, 1, 8, [.pv .nilfn]⟩,
  ⟨.other, 1, 0, []⟩,
  ⟨.scalar, 1, 8, [.pv .nilfn]⟩,
  ⟨.scalar, 1, 8, [.pv .nilfn]⟩,
  ⟨(.int .u32), 1, 4, [.pv (.int .u32 0)]⟩,
  ⟨.scalar, 1, 8, [.pv .nilfn]⟩,
  ⟨.scalar, 1, 8, [.pv .nilfn]⟩,
  ⟨.scalar, 1, 8, [.pv .nilfn]⟩,
  ⟨.scalar, 1, 8, [.pv .nilfn]⟩,
  ⟨(.int .u64), 1, 8, [.pv (.int .u64 0)]⟩,
  ⟨.scalar, 1, 8, [.pv .nilfn]⟩,
  ⟨.scalar, 1, 8, [.pv .nilfn]⟩,
  ⟨.scalar, 1, 8, [.pv .nilfn]⟩,
  ⟨.scalar, 1, 8, [.pv (.con (.pointer none))]⟩,
  ⟨.scalar, 1, 8, [.pv .nilfn]⟩,
  ⟨.scalar, 1, 8, [.pv .nilfn]⟩,
  ⟨.scalar, 1, 8, [.pv .nilfn]⟩,
  ⟨.scalar, 1, 8, [.pv .nilfn]⟩,
  ⟨(.struct [(3, 0), (3, 1), (143, 2)]), 3, 24, [.pv (.int .i64 0), .pv (.int .i64 0), .pv .nilfn]⟩,
  ⟨(.struct [(3, 0), (3, 1), (143, 2)]), 3, 24, [.pv (.int .i64 0), .pv (.int .i64 0), .pv .nilfn]⟩,
  ⟨.scalar, 1, 8, [.pv .nilfn]⟩,
  ⟨.scalar, 1, 8, [.pv (.con (.pointer none))]⟩,
  ⟨.other, 1, 0, []⟩,
  ⟨.scalar, 1, 8, [.pv .nilfn]⟩,
  ⟨.scalar, 1, 8, [.pv .nilfn]⟩,
  ⟨.scalar, 1, 8, [.pv .nilfn]⟩,
  ⟨.scalar, 1, 8, [.pv .nilfn]⟩,
  ⟨.scalar, 1, 8, [.pv .nilfn]⟩,
  ⟨.scalar, 1, 8, [.pv .nilfn]⟩,
  ⟨.scalar, 1, 8, [.pv .nilfn]⟩,
  ⟨.other, 1, 0, []⟩,
  ⟨.scalar, 1, 8, [.pv .nilfn]⟩,
  ⟨.scalar, 1, 8, [.pv .nilfn]⟩,
  ⟨.scalar, 1, 8, [.pv .nilfn]⟩,
  ⟨.scalar, 1, 8, [.pv .nilfn]⟩,
  ⟨.other, 4, 40, []⟩,
  ⟨.other, 4, 40, []⟩,
  ⟨.other, 0, 0, []⟩,
  ⟨.other, 0, 0, []⟩,
  ⟨.other, 0, 0, []⟩,
  ⟨.scalar, 1, 8, [.pv .nilfn]⟩,
  ⟨(.int .u8), 1, 1, [.pv (.int .u8 0)]⟩,
  ⟨(.int .u8), 1, 1, [.pv (.int .u8 0)]⟩,
  ⟨.scalar, 1, 8, [.pv .nilfn]⟩,
  ⟨.scalar, 1, 8, [.pv (.con (.pointer none))]⟩,
  ⟨(.int .i32), 1, 4, [.pv (.int .i32 0)]⟩,
  ⟨(.int .i32), 1, 4, [.pv (.int .i32 0)]⟩,
  ⟨.other, 11, 48, []⟩,
  ⟨.other, 11, 48, []⟩,
  ⟨.other, 1, 8, []⟩]
def h2 : Hint := ⟨0, ⟨[], [], [], []⟩, [], [], [], []⟩
noncomputable def fi2 : FnI := mkFn Try.f2 h2
def h3 : Hint := ⟨4, ⟨[11, 12, 14, 15, 91, 103, 114, 125, 130, 136], [], [], []⟩, [(8, [2, 3, 4, 5, 11, 12, 13]), (13, [2, 3, 4, 5, 11, 12, 13, 14, 15, 16])], [(8, [4, 11, 12]), (13, [2, 3, 4, 5, 11, 12, 13, 14, 15])], [(19, [28]), (20, [30]), (21, [22, 24])], [(5, [2, 3, 4, 5]), (16, [2, 3, 4, 5, 11, 12, 13, 14, 15, 16, 88])]⟩
noncomputable def fi3 : FnI := mkFn Try.f3 h3
def h4 : Hint := ⟨3, ⟨[], [], [], []⟩, [], [], [], [(6, [2, 7]), (9, [2, 7, 12, 13, 14])]⟩
noncomputable def fi4 : FnI := mkFn Try.f4 h4
def h5 : Hint := ⟨5, ⟨[], [], [], []⟩, [], [], [], [(5, [2, 3, 4, 5, 6]), (12, [2, 3, 5, 6, 27])]⟩
noncomputable def fi5 : FnI := mkFn Try.f5 h5
def h6 : Hint := ⟨5, ⟨[], [], [], []⟩, [(13, [13, 15, 19])], [(13, [10])], [], [(5, [2, 3, 4, 5, 6]), (9, [2, 3, 4, 6, 13, 15]), (12, [13, 15])]⟩
noncomputable def fi6 : FnI := mkFn Try.f6 h6
def h7 : Hint := ⟨3, ⟨[], [], [], []⟩, [(11, [1, 2, 3, 9, 13, 14])], [(11, [1, 3, 6, 9, 13])], [], [(5, [1, 2, 3]), (8, [1, 2, 3, 9, 10, 12, 58]), (15, [1, 2, 3, 9, 13, 14])]⟩
noncomputable def fi7 : FnI := mkFn Try.f7 h7
def h8 : Hint := ⟨0, ⟨[], [], [], []⟩, [], [], [], []⟩
noncomputable def fi8 : FnI := mkFn Try.f8 h8
def h9 : Hint := ⟨1, ⟨[], [], [], []⟩, [(3, [1, 3, 4]), (7, [1, 3, 4, 5])], [(3, [3]), (7, [1, 3, 4])], [], [(5, [1, 4]), (9, [1, 4, 5])]⟩
noncomputable def fi9 : FnI := mkFn Try.f9 h9
def h10 : Hint := ⟨2, ⟨[], [28, 35], [], []⟩, [(4, [2, 21, 22, 23])], [(4, [4])], [], [(3, [2, 3])]⟩
noncomputable def fi10 : FnI := mkFn Try.f10 h10
def h11 : Hint := ⟨1, ⟨[], [], [], []⟩, [], [], [], []⟩
noncomputable def fi11 : FnI := mkFn Try.f11 h11
def h12 : Hint := ⟨2, ⟨[], [], [], []⟩, [], [], [], [(3, [0, 1])]⟩
noncomputable def fi12 : FnI := mkFn Try.f12 h12
def h13 : Hint := ⟨1, ⟨[], [], [], []⟩, [], [], [], []⟩
noncomputable def fi13 : FnI := mkFn Try.f13 h13
def h14 : Hint := ⟨4, ⟨[10, 45], [], [], []⟩, [(5, [2, 3, 5, 8, 10, 36, 37])], [(5, [2, 5, 8, 10])], [(9, [20])], [(3, [2, 3, 4, 5, 8])]⟩
noncomputable def fi14 : FnI := mkFn Try.f14 h14
def h15 : Hint := ⟨4, ⟨[11, 61], [], [], []⟩, [(6, [2, 3, 4, 8, 11, 12])], [(6, [8, 11])], [(9, [22])], [(4, [2, 3, 4, 5, 8])]⟩
noncomputable def fi15 : FnI := mkFn Try.f15 h15
def h16 : Hint := ⟨1, ⟨[], [], [], []⟩, [], [], [], []⟩
noncomputable def fi16 : FnI := mkFn Try.f16 h16
def h17 : Hint := ⟨1, ⟨[], [], [], []⟩, [], [], [], []⟩
noncomputable def fi17 : FnI := mkFn Try.f17 h17
def h18 : Hint := ⟨1, ⟨[], [], [], []⟩, [], [], [], [(3, [0])]⟩
noncomputable def fi18 : FnI := mkFn Try.f18 h18
def h19 : Hint := ⟨2, ⟨[], [], [], []⟩, [(5, [2, 3, 6])], [(5, [4])], [], [(4, [2, 3])]⟩
noncomputable def fi19 : FnI := mkFn Try.f19 h19
def h20 : Hint := ⟨2, ⟨[], [], [], []⟩, [(4, [2, 3, 5])], [(4, [4])], [], []⟩
noncomputable def fi20 : FnI := mkFn Try.f20 h20
def h21 : Hint := ⟨1, ⟨[], [], [], []⟩, [(2, [1, 3])], [(2, [1, 2])], [], []⟩
noncomputable def fi21 : FnI := mkFn Try.f21 h21
def h22 : Hint := ⟨2, ⟨[], [], [], []⟩, [(5, [2, 3, 6]), (10, [2, 3, 6, 7]), (15, [2, 3, 6, 7, 8])], [(5, [4]), (10, [2, 3, 4, 6]), (15, [2, 3, 4, 6, 7])], [], [(4, [2, 3])]⟩
noncomputable def fi22 : FnI := mkFn Try.f22 h22
def h23 : Hint := ⟨2, ⟨[], [], [], []⟩, [], [], [], [(3, [0, 1])]⟩
noncomputable def fi23 : FnI := mkFn Try.f23 h23
def h24 : Hint := ⟨2, ⟨[6, 65], [], [], []⟩, [(5, [3, 4, 6, 45, 46, 47]), (8, [3, 4, 6, 8, 45, 46, 47, 52, 53, 54])], [(5, [4, 6]), (8, [3, 4, 6, 45, 46, 47])], [(2, [12]), (13, [12])], [(4, [2, 3, 4, 6])]⟩
noncomputable def fi24 : FnI := mkFn Try.f24 h24
def h25 : Hint := ⟨1, ⟨[3], [], [], []⟩, [(3, [1, 3, 10, 11, 12]), (11, [1, 6, 31, 32, 33])], [(3, [1, 2]), (11, [1, 2])], [], []⟩
noncomputable def fi25 : FnI := mkFn Try.f25 h25
def h26 : Hint := ⟨2, ⟨[], [], [], []⟩, [(4, [0, 1, 5])], [(4, [4])], [], []⟩
noncomputable def fi26 : FnI := mkFn Try.f26 h26
def h27 : Hint := ⟨0, ⟨[], [], [], []⟩, [], [], [], []⟩
noncomputable def fi27 : FnI := mkFn Try.f27 h27
def h28 : Hint := ⟨2, ⟨[], [], [], []⟩, [(4, [2, 5])], [(4, [4])], [], [(3, [2])]⟩
noncomputable def fi28 : FnI := mkFn Try.f28 h28
def h29 : Hint := ⟨3, ⟨[11, 15, 19, 23, 68, 71, 93, 112, 137, 143, 149], [], [], []⟩, [(8, [1, 2, 3, 6, 8, 10, 11, 51, 52, 53]), (18, [2, 3, 6, 10, 11, 15, 84, 85]), (23, [2, 3, 6, 10, 15, 96, 97, 98]), (27, [2, 3, 6, 10, 15, 18, 19, 96, 97, 98, 113, 114, 115]), (32, [2, 3, 6, 10, 15, 18, 19, 22, 23, 96, 97, 98, 113, 114, 115, 125, 126, 127])], [(8, [1, 2, 3, 6, 10, 11]), (18, [2, 3, 6, 10, 11, 15]), (23, [6, 15]), (27, [2, 3, 6, 10, 15, 19, 96, 97, 98]), (32, [2, 3, 6, 10, 15, 18, 19, 23, 96, 97, 98, 113, 114, 115])], [(15, [22]), (36, [46]), (38, [38]), (40, [30])], [(5, [1, 2, 3, 6, 8]), (13, [1, 2, 3, 6, 8, 10, 11, 13, 14, 51, 52, 53])]⟩
noncomputable def fi29 : FnI := mkFn Try.f29 h29
def h30 : Hint := ⟨2, ⟨[], [15, 16], [], []⟩, [], [], [], []⟩
noncomputable def fi30 : FnI := mkFn Try.f30 h30
def h31 : Hint := ⟨2, ⟨[], [12, 13], [], []⟩, [], [], [], []⟩
noncomputable def fi31 : FnI := mkFn Try.f31 h31
def h32 : Hint := ⟨0, ⟨[], [], [], []⟩, [], [], [], []⟩
noncomputable def fi32 : FnI := mkFn Try.f32 h32
def h33 : Hint := ⟨3, ⟨[], [], [], []⟩, [], [], [], []⟩
noncomputable def fi33 : FnI := mkFn Try.f33 h33
def h34 : Hint := ⟨2, ⟨[], [], [], []⟩, [], [], [], []⟩
noncomputable def fi34 : FnI := mkFn Try.f34 h34
def h35 : Hint := ⟨2, ⟨[], [7], [], []⟩, [], [], [], []⟩ -- slices.ContainsFunc[[][]roadbook/api.Val,[]roadbook/api.Val]
noncomputable def fi35 : FnI := mkFn Try.f35 h35
def h36 : Hint := ⟨3, ⟨[], [], [], []⟩, [], [], [], []⟩
noncomputable def fi36 : FnI := mkFn Try.f36 h36
def h37 : Hint := ⟨2, ⟨[], [], [], []⟩, [], [], [], []⟩ -- slices.ContainsFunc[[]roadbook/api.Def,roadbook/api.Def]
noncomputable def fi37 : FnI := mkFn Try.f37 h37
def h38 : Hint := ⟨1, ⟨[], [], [], []⟩, [], [], [], []⟩
noncomputable def fi38 : FnI := mkFn Try.f38 h38
def h39 : Hint := ⟨1, ⟨[], [], [], []⟩, [], [], [], []⟩
noncomputable def fi39 : FnI := mkFn Try.f39 h39
def h40 : Hint := ⟨2, ⟨[], [], [], []⟩, [], [], [], []⟩
noncomputable def fi40 : FnI := mkFn Try.f40 h40
def h41 : Hint := ⟨1, ⟨[5], [], [], []⟩, [], [], [], []⟩ -- slices.Clone[[]roadbook/api.Def,roadbook/api.Def]
noncomputable def fi41 : FnI := mkFn Try.f41 h41
def h42 : Hint := ⟨2, ⟨[], [], [], []⟩, [(4, [0, 1, 5])], [(4, [4])], [], []⟩
noncomputable def fi42 : FnI := mkFn Try.f42 h42
def h43 : Hint := ⟨1, ⟨[], [], [], []⟩, [], [], [], []⟩
noncomputable def fi43 : FnI := mkFn Try.f43 h43
def h44 : Hint := ⟨1, ⟨[6, 24, 33], [24], [24], [(24, [(.view 0 0 none, [.row false 0 0 []])])]⟩, [(3, [0, 3, 9, 10, 11]), (11, [6, 25, 26, 27])], [(3, [0, 3]), (11, [6])], [], []⟩ -- slices.Concat[[]int,int]
noncomputable def fi44 : FnI := mkFn Try.f44 h44
def h45 : Hint := ⟨1, ⟨[6, 24, 33], [24], [24], [(24, [(.view 0 0 none, [.row false 0 3 []])])]⟩, [(3, [0, 3, 9, 10, 11]), (11, [6, 25, 26, 27])], [(3, [0, 3]), (11, [6])], [], []⟩ -- slices.Concat[[]roadbook/api.Val,roadbook/api.Val]
noncomputable def fi45 : FnI := mkFn Try.f45 h45
def h46 : Hint := ⟨1, ⟨[], [], [], []⟩, [], [], [], []⟩
noncomputable def fi46 : FnI := mkFn Try.f46 h46
def h47 : Hint := ⟨1, ⟨[], [], [], []⟩, [], [], [], []⟩
noncomputable def fi47 : FnI := mkFn Try.f47 h47
def h48 : Hint := ⟨2, ⟨[], [], [], []⟩, [], [], [], []⟩ -- slices.ContainsFunc[[]roadbook/api.Val,roadbook/api.Val]
noncomputable def fi48 : FnI := mkFn Try.f48 h48
def h49 : Hint := ⟨0, ⟨[], [], [], []⟩, [], [], [], []⟩
noncomputable def fi49 : FnI := mkFn Try.f49 h49
def h50 : Hint := ⟨2, ⟨[], [], [], []⟩, [(2, [0, 1, 7, 8])], [(2, [4])], [], []⟩ -- slices.Index[[]int,int]
noncomputable def fi50 : FnI := mkFn Try.f50 h50
def h51 : Hint := ⟨2, ⟨[], [], [], []⟩, [], [], [], []⟩
noncomputable def fi51 : FnI := mkFn Try.f51 h51
def h52 : Hint := ⟨2, ⟨[], [], [], []⟩, [], [], [], []⟩ -- slices.Contains[[]int,int]
noncomputable def fi52 : FnI := mkFn Try.f52 h52
def h53 : Hint := ⟨2, ⟨[], [], [], []⟩, [], [], [], []⟩ -- slices.ContainsFunc[[]int,int]
noncomputable def fi53 : FnI := mkFn Try.f53 h53
def h54 : Hint := ⟨2, ⟨[], [], [], []⟩, [], [], [], [(3, [0, 1, 4]), (6, [4, 5])]⟩
noncomputable def fi54 : FnI := mkFn Try.f54 h54
def h55 : Hint := ⟨2, ⟨[], [], [], []⟩, [], [], [], []⟩ -- slices.SortFunc[[]roadbook/bag.key,roadbook/bag.key]
noncomputable def fi55 : FnI := mkFn Try.f55 h55
def h56 : Hint := ⟨2, ⟨[], [], [], []⟩, [], [], [], []⟩
noncomputable def fi56 : FnI := mkFn Try.f56 h56
def h57 : Hint := ⟨1, ⟨[], [], [], []⟩, [], [], [], []⟩
noncomputable def fi57 : FnI := mkFn Try.f57 h57
def h58 : Hint := ⟨1, ⟨[], [], [], []⟩, [(6, [2, 3, 4, 5, 14, 15, 16])], [(6, [2, 3, 4, 5])], [], []⟩
noncomputable def fi58 : FnI := mkFn Try.f58 h58
def h59 : Hint := ⟨2, ⟨[5, 27], [], [], []⟩, [(3, [1, 4, 5, 13, 14, 15])], [(3, [4, 5])], [(8, [10])], []⟩
noncomputable def fi59 : FnI := mkFn Try.f59 h59
def h60 : Hint := ⟨1, ⟨[], [], [], []⟩, [], [], [], []⟩
noncomputable def fi60 : FnI := mkFn Try.f60 h60
def h61 : Hint := ⟨2, ⟨[], [8], [], []⟩, [], [], [], []⟩ -- slices.SortStableFunc[[][]roadbook/api.Val,[]roadbook/api.Val]
noncomputable def fi61 : FnI := mkFn Try.f61 h61
def h62 : Hint := ⟨3, ⟨[], [], [], []⟩, [], [], [], []⟩
noncomputable def fi62 : FnI := mkFn Try.f62 h62
def h63 : Hint := ⟨2, ⟨[], [23], [], []⟩, [(2, [0, 1, 5])], [(2, [4])], [], []⟩ -- slices.IsSortedFunc[[][]roadbook/api.Val,[]roadbook/api.Val]
noncomputable def fi63 : FnI := mkFn Try.f63 h63
def h64 : Hint := ⟨3, ⟨[], [], [], []⟩, [], [], [], []⟩
noncomputable def fi64 : FnI := mkFn Try.f64 h64
def h65 : Hint := ⟨1, ⟨[], [], [], []⟩, [], [], [], []⟩
noncomputable def fi65 : FnI := mkFn Try.f65 h65
def h66 : Hint := ⟨2, ⟨[], [16], [], []⟩, [(2, [0, 1, 7, 8])], [(2, [4])], [], []⟩ -- slices.IndexFunc[[][]roadbook/api.Val,[]roadbook/api.Val]
noncomputable def fi66 : FnI := mkFn Try.f66 h66
def h67 : Hint := ⟨2, ⟨[], [], [], []⟩, [(2, [0, 1, 7, 8])], [(2, [4])], [], []⟩ -- slices.IndexFunc[[]roadbook/api.Def,roadbook/api.Def]
noncomputable def fi67 : FnI := mkFn Try.f67 h67
def h68 : Hint := ⟨3, ⟨[], [], [], []⟩, [], [], [], []⟩
noncomputable def fi68 : FnI := mkFn Try.f68 h68
def h69 : Hint := ⟨2, ⟨[], [], [], []⟩, [], [], [], []⟩ -- slices.ContainsFunc[[]roadbook/api.Expr,roadbook/api.Expr]
noncomputable def fi69 : FnI := mkFn Try.f69 h69
def h70 : Hint := ⟨3, ⟨[], [], [], []⟩, [], [], [], []⟩
noncomputable def fi70 : FnI := mkFn Try.f70 h70
def h71 : Hint := ⟨3, ⟨[], [], [], []⟩, [], [], [], []⟩
noncomputable def fi71 : FnI := mkFn Try.f71 h71
def h72 : Hint := ⟨2, ⟨[0, 4, 22], [], [], []⟩, [], [], [], [(3, [0, 1])]⟩ -- slices.Grow[[]int,int]
noncomputable def fi72 : FnI := mkFn Try.f72 h72
def h73 : Hint := ⟨2, ⟨[0, 4, 22], [], [], []⟩, [], [], [], [(3, [0, 1])]⟩ -- slices.Grow[[]roadbook/api.Val,roadbook/api.Val]
noncomputable def fi73 : FnI := mkFn Try.f73 h73
def h74 : Hint := ⟨2, ⟨[], [], [], []⟩, [(2, [0, 1, 7, 8])], [(2, [4])], [], []⟩ -- slices.IndexFunc[[]roadbook/api.Val,roadbook/api.Val]
noncomputable def fi74 : FnI := mkFn Try.f74 h74
def h75 : Hint := ⟨2, ⟨[], [], [], []⟩, [(2, [0, 1, 7, 8])], [(2, [4])], [], []⟩ -- slices.IndexFunc[[]int,int]
noncomputable def fi75 : FnI := mkFn Try.f75 h75
def h76 : Hint := ⟨5, ⟨[], [], [], []⟩, [(2, [0, 1, 2, 3, 4, 10, 11])], [(2, [])], [], [(10, [0, 1, 2, 3, 4, 10, 11, 12]), (15, [0, 1, 2, 3, 4, 10, 11, 12, 13, 14]), (16, [0, 1, 2, 3, 4, 10, 11, 12, 13, 75]), (17, [0, 1, 2, 3, 4, 10, 11, 12, 13]), (18, [0, 1, 2, 3, 4, 10, 11, 12, 13, 97])]⟩
noncomputable def fi76 : FnI := mkFn Try.f76 h76
def h77 : Hint := ⟨1, ⟨[], [], [], []⟩, [], [], [], []⟩
noncomputable def fi77 : FnI := mkFn Try.f77 h77
def h78 : Hint := ⟨2, ⟨[], [], [], []⟩, [(2, [0, 1, 9, 10, 11])], [(2, [0, 1, 4])], [], []⟩ -- slices.Compare[[]int,int]
noncomputable def fi78 : FnI := mkFn Try.f78 h78
def h79 : Hint := ⟨2, ⟨[], [], [], []⟩, [], [], [], []⟩
noncomputable def fi79 : FnI := mkFn Try.f79 h79
def h80 : Hint := ⟨1, ⟨[], [], [], []⟩, [], [], [], []⟩
noncomputable def fi80 : FnI := mkFn Try.f80 h80
def h81 : Hint := ⟨0, ⟨[], [], [], []⟩, [], [], [], []⟩
noncomputable def fi81 : FnI := mkFn Try.f81 h81
def h83 : Hint := ⟨0, ⟨[], [], [], []⟩, [], [], [], []⟩
noncomputable def fi83 : FnI := mkFn Try.f83 h83
def h84 : Hint := ⟨1, ⟨[5], [], [], []⟩, [], [], [], []⟩ -- slices.Clone[[]int,int]
noncomputable def fi84 : FnI := mkFn Try.f84 h84
def h85 : Hint := ⟨1, ⟨[5], [], [], []⟩, [], [], [], []⟩ -- slices.Clone[[]roadbook/api.Val,roadbook/api.Val]
noncomputable def fi85 : FnI := mkFn Try.f85 h85
def h86 : Hint := ⟨3, ⟨[], [18, 27, 43, 60], [], []⟩, [(2, [0, 1, 2, 6, 7, 8]), (7, [0, 1, 2, 6]), (9, [0, 1, 2, 6, 7, 8])], [(2, [0, 1, 2, 6, 7]), (7, []), (9, [0, 1, 2, 6, 7])], [], []⟩
noncomputable def fi86 : FnI := mkFn Try.f86 h86
def h87 : Hint := ⟨2, ⟨[], [], [], []⟩, [(2, [0, 1, 7, 8])], [(2, [4])], [], []⟩ -- slices.IndexFunc[[]roadbook/api.Expr,roadbook/api.Expr]
noncomputable def fi87 : FnI := mkFn Try.f87 h87
def h88 : Hint := ⟨1, ⟨[], [], [], []⟩, [], [], [], []⟩
noncomputable def fi88 : FnI := mkFn Try.f88 h88
def h89 : Hint := ⟨3, ⟨[], [], [], []⟩, [], [], [], []⟩
noncomputable def fi89 : FnI := mkFn Try.f89 h89
def h90 : Hint := ⟨4, ⟨[0], [], [], []⟩, [(1, [0, 1, 2, 3, 8]), (4, [0, 1, 2, 3, 8, 9])], [(1, []), (4, [0, 1, 2, 3, 8])], [], [(6, [0, 1, 2, 3, 8, 9])]⟩
noncomputable def fi90 : FnI := mkFn Try.f90 h90
def h91 : Hint := ⟨4, ⟨[0], [], [], []⟩, [(4, [0, 3, 8, 9, 10, 11]), (8, [0, 3, 8, 9, 12])], [(4, [0, 3, 8, 9, 10]), (8, [])], [(6, [0]), (11, [0])], []⟩
noncomputable def fi91 : FnI := mkFn Try.f91 h91
def h92 : Hint := ⟨4, ⟨[0], [38], [], []⟩, [(5, [0, 1, 8, 9, 10, 11])], [(5, [])], [], [(10, [0, 1, 8, 9, 10, 11, 12])]⟩
noncomputable def fi92 : FnI := mkFn Try.f92 h92
def h93 : Hint := ⟨4, ⟨[], [40, 44, 48, 54], [], []⟩, [], [], [], [(11, [0, 3, 11, 12, 13, 14]), (12, [11, 13])]⟩
noncomputable def fi93 : FnI := mkFn Try.f93 h93
def h94 : Hint := ⟨4, ⟨[0], [], [], []⟩, [(2, [0, 8, 9])], [(2, [])], [], []⟩
noncomputable def fi94 : FnI := mkFn Try.f94 h94
def h95 : Hint := ⟨4, ⟨[0], [], [], []⟩, [(3, [0, 1, 2, 3, 9, 10]), (5, [0, 1, 2, 3, 9, 10]), (14, [0, 1, 2, 3, 9, 10, 11]), (20, [0, 1, 2, 3, 9, 10, 12])], [(3, [8]), (5, [0, 1, 2, 3, 9, 10]), (14, [0, 1, 2, 3, 9, 10]), (20, [0, 1, 2, 3, 9, 10])], [], [(7, [0, 1, 2, 3, 9, 10]), (18, [0, 1, 2, 3, 9, 10])]⟩
noncomputable def fi95 : FnI := mkFn Try.f95 h95
def h96 : Hint := ⟨5, ⟨[0], [], [], []⟩, [(3, [0, 1, 4, 11, 12]), (5, [0, 1, 4, 11, 12])], [(3, [11]), (5, [0, 1, 4, 11, 12])], [], [(5, [0, 1, 4, 11, 12]), (7, [0, 1, 4, 11, 12])]⟩
noncomputable def fi96 : FnI := mkFn Try.f96 h96
def h97 : Hint := ⟨5, ⟨[0], [], [], []⟩, [(3, [0, 1, 4, 12, 13]), (5, [0, 1, 4, 12, 13]), (13, [0, 1, 4, 12, 13]), (15, [0, 1, 4, 12, 13])], [(3, [0, 1, 4, 12, 13]), (5, [0, 1, 4, 12, 13]), (13, [0, 1, 13]), (15, [0, 1, 4, 12, 13])], [], [(5, [0, 1, 4, 12, 13]), (7, [0, 1, 4, 12, 13]), (15, [0, 1, 4, 12, 13]), (17, [0, 1, 4, 12, 13])]⟩
noncomputable def fi97 : FnI := mkFn Try.f97 h97
def h98 : Hint := ⟨1, ⟨[], [], [], []⟩, [], [], [], [(4, [0, 2]), (7, [0, 2])]⟩
noncomputable def fi98 : FnI := mkFn Try.f98 h98
def h99 : Hint := ⟨1, ⟨[], [], [], []⟩, [], [], [], [(4, [0, 2]), (7, [0, 2]), (10, [0, 2])]⟩
noncomputable def fi99 : FnI := mkFn Try.f99 h99
def h100 : Hint := ⟨2, ⟨[], [], [], []⟩, [], [], [], []⟩
noncomputable def fi100 : FnI := mkFn Try.f100 h100
def h101 : Hint := ⟨2, ⟨[], [], [], []⟩, [], [], [], []⟩
noncomputable def fi101 : FnI := mkFn Try.f101 h101
def h102 : Hint := ⟨1, ⟨[], [], [], []⟩, [], [], [], []⟩
noncomputable def fi102 : FnI := mkFn Try.f102 h102
def h103 : Hint := ⟨4, ⟨[0], [32], [], []⟩, [(1, [0, 1, 2, 3, 8]), (4, [0, 1, 2, 3, 8, 9])], [(1, []), (4, [0, 1, 2, 3, 8])], [], [(6, [0, 1, 2, 3, 8, 9])]⟩
noncomputable def fi103 : FnI := mkFn Try.f103 h103
def h104 : Hint := ⟨5, ⟨[0], [49, 101, 169, 191, 205, 219], [], []⟩, [(3, [0, 1, 4, 10, 11]), (9, [0, 10, 13]), (15, [0, 2, 4, 14, 15]), (21, [0, 14, 17]), (33, [0, 1, 2, 3, 4, 18, 19, 20, 21, 22])], [(3, [0, 1, 10]), (9, []), (15, [0, 2, 14]), (21, []), (33, [0, 1, 2, 3, 4, 18, 19, 20])], [(40, [0]), (42, [0]), (44, [0])], [(32, [0, 1, 2, 3, 4, 18, 19, 20, 21]), (40, [0, 1, 2, 3, 4, 18, 20, 24, 185]), (41, [0, 1, 3, 4, 18, 20, 24]), (42, [0, 1, 3, 4, 18, 20, 24, 199]), (43, [0, 3, 4, 18, 24]), (44, [0, 3, 4, 18, 24, 213])]⟩
noncomputable def fi104 : FnI := mkFn Try.f104 h104
def h105 : Hint := ⟨1, ⟨[], [5, 6], [], []⟩, [], [], [], []⟩
noncomputable def fi105 : FnI := mkFn Try.f105 h105
def h106 : Hint := ⟨3, ⟨[8, 49], [], [], []⟩, [(11, [1, 2, 3, 6, 8, 37, 38, 39])], [(11, [3, 6, 8])], [(15, [16])], [(8, [2, 6, 7])]⟩
noncomputable def fi106 : FnI := mkFn Try.f106 h106
def h107 : Hint := ⟨5, ⟨[0], [], [], []⟩, [(1, [0, 2, 3, 4, 10])], [(1, [])], [], [(5, [0, 2, 3, 4, 10, 11])]⟩
noncomputable def fi107 : FnI := mkFn Try.f107 h107
def h108 : Hint := ⟨1, ⟨[], [], [], []⟩, [], [], [], []⟩
noncomputable def fi108 : FnI := mkFn Try.f108 h108
def h109 : Hint := ⟨1, ⟨[], [], [], []⟩, [], [], [], []⟩
noncomputable def fi109 : FnI := mkFn Try.f109 h109
def h110 : Hint := ⟨4, ⟨[], [17], [], []⟩, [], [], [], []⟩
noncomputable def fi110 : FnI := mkFn Try.f110 h110
def h111 : Hint := ⟨6, ⟨[], [19, 28, 37], [], []⟩, [], [], [], []⟩
noncomputable def fi111 : FnI := mkFn Try.f111 h111
def h112 : Hint := ⟨1, ⟨[], [], [], []⟩, [], [], [], []⟩
noncomputable def fi112 : FnI := mkFn Try.f112 h112
def h113 : Hint := ⟨5, ⟨[], [31, 46, 57], [], []⟩, [(2, [0, 2, 4, 10, 11])], [(2, [0, 2, 4, 10])], [], []⟩
noncomputable def fi113 : FnI := mkFn Try.f113 h113
def h114 : Hint := ⟨3, ⟨[], [12, 25], [], []⟩, [(4, [1, 2, 15, 16, 17])], [(4, [6])], [], []⟩
noncomputable def fi114 : FnI := mkFn Try.f114 h114
def h115 : Hint := ⟨3, ⟨[], [], [], []⟩, [], [], [], []⟩
noncomputable def fi115 : FnI := mkFn Try.f115 h115
def h116 : Hint := ⟨1, ⟨[], [], [], []⟩, [], [], [], [(3, [1, 4]), (4, [1, 4, 5]), (5, [1, 4, 5, 6])]⟩
noncomputable def fi116 : FnI := mkFn Try.f116 h116
def h117 : Hint := ⟨1, ⟨[], [], [], []⟩, [], [], [], []⟩
noncomputable def fi117 : FnI := mkFn Try.f117 h117
def h118 : Hint := ⟨5, ⟨[], [], [], []⟩, [], [], [], []⟩
noncomputable def fi118 : FnI := mkFn Try.f118 h118
def h119 : Hint := ⟨5, ⟨[0], [], [], []⟩, [(1, [0, 1, 2, 3, 10])], [(1, [])], [], []⟩
noncomputable def fi119 : FnI := mkFn Try.f119 h119
def h120 : Hint := ⟨1, ⟨[], [], [], []⟩, [], [], [], []⟩
noncomputable def fi120 : FnI := mkFn Try.f120 h120
def h121 : Hint := ⟨2, ⟨[], [], [], []⟩, [], [], [], []⟩
noncomputable def fi121 : FnI := mkFn Try.f121 h121
def h122 : Hint := ⟨2, ⟨[], [], [], []⟩, [], [], [], []⟩
noncomputable def fi122 : FnI := mkFn Try.f122 h122
def h123 : Hint := ⟨2, ⟨[], [], [], []⟩, [], [], [], []⟩
noncomputable def fi123 : FnI := mkFn Try.f123 h123
def h124 : Hint := ⟨2, ⟨[], [], [], []⟩, [], [], [], []⟩
noncomputable def fi124 : FnI := mkFn Try.f124 h124
def h125 : Hint := ⟨2, ⟨[], [], [], []⟩, [], [], [], []⟩
noncomputable def fi125 : FnI := mkFn Try.f125 h125
def h126 : Hint := ⟨2, ⟨[], [], [], []⟩, [], [], [], []⟩
noncomputable def fi126 : FnI := mkFn Try.f126 h126
def h127 : Hint := ⟨1, ⟨[], [], [], []⟩, [], [], [], []⟩
noncomputable def fi127 : FnI := mkFn Try.f127 h127
def h128 : Hint := ⟨1, ⟨[], [], [], []⟩, [], [], [], []⟩
noncomputable def fi128 : FnI := mkFn Try.f128 h128
def h129 : Hint := ⟨1, ⟨[], [], [], []⟩, [], [], [], []⟩
noncomputable def fi129 : FnI := mkFn Try.f129 h129
def h130 : Hint := ⟨1, ⟨[], [], [], []⟩, [], [], [], []⟩
noncomputable def fi130 : FnI := mkFn Try.f130 h130
def h131 : Hint := ⟨1, ⟨[], [], [], []⟩, [], [], [], []⟩
noncomputable def fi131 : FnI := mkFn Try.f131 h131
def h132 : Hint := ⟨1, ⟨[], [], [], []⟩, [], [], [], []⟩
noncomputable def fi132 : FnI := mkFn Try.f132 h132
def h133 : Hint := ⟨2, ⟨[], [], [], []⟩, [], [], [], []⟩
noncomputable def fi133 : FnI := mkFn Try.f133 h133
def h134 : Hint := ⟨3, ⟨[], [], [], []⟩, [], [], [], []⟩
noncomputable def fi134 : FnI := mkFn Try.f134 h134
def h135 : Hint := ⟨2, ⟨[], [], [], []⟩, [], [], [], []⟩
noncomputable def fi135 : FnI := mkFn Try.f135 h135
def h136 : Hint := ⟨2, ⟨[], [], [], []⟩, [], [], [], []⟩
noncomputable def fi136 : FnI := mkFn Try.f136 h136
def h137 : Hint := ⟨2, ⟨[], [], [], []⟩, [], [], [], [(5, [0, 1, 6, 7, 8])]⟩
noncomputable def fi137 : FnI := mkFn Try.f137 h137
def h138 : Hint := ⟨2, ⟨[], [], [], []⟩, [], [], [], []⟩
noncomputable def fi138 : FnI := mkFn Try.f138 h138
def h139 : Hint := ⟨1, ⟨[], [], [], []⟩, [], [], [], []⟩
noncomputable def fi139 : FnI := mkFn Try.f139 h139
def h140 : Hint := ⟨2, ⟨[], [], [], []⟩, [], [], [], [(3, [0, 1])]⟩
noncomputable def fi140 : FnI := mkFn Try.f140 h140
def h141 : Hint := ⟨1, ⟨[], [], [], []⟩, [], [], [], []⟩
noncomputable def fi141 : FnI := mkFn Try.f141 h141
def h142 : Hint := ⟨1, ⟨[], [], [], []⟩, [], [], [], []⟩
noncomputable def fi142 : FnI := mkFn Try.f142 h142
def h143 : Hint := ⟨4, ⟨[], [], [], []⟩, [], [], [], []⟩
noncomputable def fi143 : FnI := mkFn Try.f143 h143
def h144 : Hint := ⟨1, ⟨[], [], [], []⟩, [], [], [], []⟩
noncomputable def fi144 : FnI := mkFn Try.f144 h144
noncomputable def tab : List (Nat × FnI) := [(2, fi2), (3, fi3), (4, fi4), (5, fi5), (6, fi6), (7, fi7), (8, fi8), (9, fi9), (10, fi10), (11, fi11), (12, fi12), (13, fi13), (14, fi14), (15, fi15), (16, fi16), (17, fi17), (18, fi18), (19, fi19), (20, fi20), (21, fi21), (22, fi22), (23, fi23), (24, fi24), (25, fi25), (26, fi26), (27, fi27), (28, fi28), (29, fi29), (30, fi30), (31, fi31), (32, fi32), (33, fi33), (34, fi34), (35, fi35), (36, fi36), (37, fi37), (38, fi38), (39, fi39), (40, fi40), (41, fi41), (42, fi42), (43, fi43), (44, fi44), (45, fi45), (46, fi46), (47, fi47), (48, fi48), (49, fi49), (50, fi50), (51, fi51), (52, fi52), (53, fi53), (54, fi54), (55, fi55), (56, fi56), (57, fi57), (58, fi58), (59, fi59), (60, fi60), (61, fi61), (62, fi62), (63, fi63), (64, fi64), (65, fi65), (66, fi66), (67, fi67), (68, fi68), (69, fi69), (70, fi70), (71, fi71), (72, fi72), (73, fi73), (74, fi74), (75, fi75), (76, fi76), (77, fi77), (78, fi78), (79, fi79), (80, fi80), (81, fi81), (83, fi83), (84, fi84), (85, fi85), (86, fi86), (87, fi87), (88, fi88), (89, fi89), (90, fi90), (91, fi91), (92, fi92), (93, fi93), (94, fi94), (95, fi95), (96, fi96), (97, fi97), (98, fi98), (99, fi99), (100, fi100), (101, fi101), (102, fi102), (103, fi103), (104, fi104), (105, fi105), (106, fi106), (107, fi107), (108, fi108), (109, fi109), (110, fi110), (111, fi111), (112, fi112), (113, fi113), (114, fi114), (115, fi115), (116, fi116), (117, fi117), (118, fi118), (119, fi119), (120, fi120), (121, fi121), (122, fi122), (123, fi123), (124, fi124), (125, fi125), (126, fi126), (127, fi127), (128, fi128), (129, fi129), (130, fi130), (131, fi131), (132, fi132), (133, fi133), (134, fi134), (135, fi135), (136, fi136), (137, fi137), (138, fi138), (139, fi139), (140, fi140), (141, fi141), (142, fi142), (143, fi143), (144, fi144)]
noncomputable def etab : List (Nat × ExtF) := [(41, cloneExt 3), (84, cloneExt 0), (85, cloneExt 3)]
noncomputable def cfg : Cfg := ⟨ty, lookF tab, lookE etab⟩
theorem clone41 : CloneB cfg fi41 3 := fun call xs => ⟨by kernel_rfl, by kernel_rfl⟩
theorem clone84 : CloneB cfg fi84 0 := fun call xs => ⟨by kernel_rfl, by kernel_rfl⟩
theorem clone85 : CloneB cfg fi85 3 := fun call xs => ⟨by kernel_rfl, by kernel_rfl⟩
theorem tys : tysB Try.prog cfg = true := by kernel_rfl
theorem fns : AllF Try.prog cfg tab := ⟨fnB_ok Try.func2 (by kernel_rfl), fnB_ok Try.func3 (by kernel_rfl), fnB_ok Try.func4 (by kernel_rfl), fnB_ok Try.func5 (by kernel_rfl), fnB_ok Try.func6 (by kernel_rfl), fnB_ok Try.func7 (by kernel_rfl), fnB_ok Try.func8 (by kernel_rfl), fnB_ok Try.func9 (by kernel_rfl), fnB_ok Try.func10 (by kernel_rfl), fnB_ok Try.func11 (by kernel_rfl), fnB_ok Try.func12 (by kernel_rfl), fnB_ok Try.func13 (by kernel_rfl), fnB_ok Try.func14 (by kernel_rfl), fnB_ok Try.func15 (by kernel_rfl), fnB_ok Try.func16 (by kernel_rfl), fnB_ok Try.func17 (by kernel_rfl), fnB_ok Try.func18 (by kernel_rfl), fnB_ok Try.func19 (by kernel_rfl), fnB_ok Try.func20 (by kernel_rfl), fnB_ok Try.func21 (by kernel_rfl), fnB_ok Try.func22 (by kernel_rfl), fnB_ok Try.func23 (by kernel_rfl), fnB_ok Try.func24 (by kernel_rfl), fnB_ok Try.func25 (by kernel_rfl), fnB_ok Try.func26 (by kernel_rfl), fnB_ok Try.func27 (by kernel_rfl), fnB_ok Try.func28 (by kernel_rfl), fnB_ok Try.func29 (by kernel_rfl), fnB_ok Try.func30 (by kernel_rfl), fnB_ok Try.func31 (by kernel_rfl), fnB_ok Try.func32 (by kernel_rfl), fnB_ok Try.func33 (by kernel_rfl), fnB_ok Try.func34 (by kernel_rfl), fnB_ok Try.func35 (by kernel_rfl), fnB_ok Try.func36 (by kernel_rfl), fnB_ok Try.func37 (by kernel_rfl), fnB_ok Try.func38 (by kernel_rfl), fnB_ok Try.func39 (by kernel_rfl), fnB_ok Try.func40 (by kernel_rfl), fnB_ok Try.func41 (by kernel_rfl), fnB_ok Try.func42 (by kernel_rfl), fnB_ok Try.func43 (by kernel_rfl), fnB_ok Try.func44 (by kernel_rfl), fnB_ok Try.func45 (by kernel_rfl), fnB_ok Try.func46 (by kernel_rfl), fnB_ok Try.func47 (by kernel_rfl), fnB_ok Try.func48 (by kernel_rfl), fnB_ok Try.func49 (by kernel_rfl), fnB_ok Try.func50 (by kernel_rfl), fnB_ok Try.func51 (by kernel_rfl), fnB_ok Try.func52 (by kernel_rfl), fnB_ok Try.func53 (by kernel_rfl), fnB_ok Try.func54 (by kernel_rfl), fnB_ok Try.func55 (by kernel_rfl), fnB_ok Try.func56 (by kernel_rfl), fnB_ok Try.func57 (by kernel_rfl), fnB_ok Try.func58 (by kernel_rfl), fnB_ok Try.func59 (by kernel_rfl), fnB_ok Try.func60 (by kernel_rfl), fnB_ok Try.func61 (by kernel_rfl), fnB_ok Try.func62 (by kernel_rfl), fnB_ok Try.func63 (by kernel_rfl), fnB_ok Try.func64 (by kernel_rfl), fnB_ok Try.func65 (by kernel_rfl), fnB_ok Try.func66 (by kernel_rfl), fnB_ok Try.func67 (by kernel_rfl), fnB_ok Try.func68 (by kernel_rfl), fnB_ok Try.func69 (by kernel_rfl), fnB_ok Try.func70 (by kernel_rfl), fnB_ok Try.func71 (by kernel_rfl), fnB_ok Try.func72 (by kernel_rfl), fnB_ok Try.func73 (by kernel_rfl), fnB_ok Try.func74 (by kernel_rfl), fnB_ok Try.func75 (by kernel_rfl), fnB_ok Try.func76 (by kernel_rfl), fnB_ok Try.func77 (by kernel_rfl), fnB_ok Try.func78 (by kernel_rfl), fnB_ok Try.func79 (by kernel_rfl), fnB_ok Try.func80 (by kernel_rfl), fnB_ok Try.func81 (by kernel_rfl), fnB_ok Try.func83 (by kernel_rfl), fnB_ok Try.func84 (by kernel_rfl), fnB_ok Try.func85 (by kernel_rfl), fnB_ok Try.func86 (by kernel_rfl), fnB_ok Try.func87 (by kernel_rfl), fnB_ok Try.func88 (by kernel_rfl), fnB_ok Try.func89 (by kernel_rfl), fnB_ok Try.func90 (by kernel_rfl), fnB_ok Try.func91 (by kernel_rfl), fnB_ok Try.func92 (by kernel_rfl), fnB_ok Try.func93 (by kernel_rfl), fnB_ok Try.func94 (by kernel_rfl), fnB_ok Try.func95 (by kernel_rfl), fnB_ok Try.func96 (by kernel_rfl), fnB_ok Try.func97 (by kernel_rfl), fnB_ok Try.func98 (by kernel_rfl), fnB_ok Try.func99 (by kernel_rfl), fnB_ok Try.func100 (by kernel_rfl), fnB_ok Try.func101 (by kernel_rfl), fnB_ok Try.func102 (by kernel_rfl), fnB_ok Try.func103 (by kernel_rfl), fnB_ok Try.func104 (by kernel_rfl), fnB_ok Try.func105 (by kernel_rfl), fnB_ok Try.func106 (by kernel_rfl), fnB_ok Try.func107 (by kernel_rfl), fnB_ok Try.func108 (by kernel_rfl), fnB_ok Try.func109 (by kernel_rfl), fnB_ok Try.func110 (by kernel_rfl), fnB_ok Try.func111 (by kernel_rfl), fnB_ok Try.func112 (by kernel_rfl), fnB_ok Try.func113 (by kernel_rfl), fnB_ok Try.func114 (by kernel_rfl), fnB_ok Try.func115 (by kernel_rfl), fnB_ok Try.func116 (by kernel_rfl), fnB_ok Try.func117 (by kernel_rfl), fnB_ok Try.func118 (by kernel_rfl), fnB_ok Try.func119 (by kernel_rfl), fnB_ok Try.func120 (by kernel_rfl), fnB_ok Try.func121 (by kernel_rfl), fnB_ok Try.func122 (by kernel_rfl), fnB_ok Try.func123 (by kernel_rfl), fnB_ok Try.func124 (by kernel_rfl), fnB_ok Try.func125 (by kernel_rfl), fnB_ok Try.func126 (by kernel_rfl), fnB_ok Try.func127 (by kernel_rfl), fnB_ok Try.func128 (by kernel_rfl), fnB_ok Try.func129 (by kernel_rfl), fnB_ok Try.func130 (by kernel_rfl), fnB_ok Try.func131 (by kernel_rfl), fnB_ok Try.func132 (by kernel_rfl), fnB_ok Try.func133 (by kernel_rfl), fnB_ok Try.func134 (by kernel_rfl), fnB_ok Try.func135 (by kernel_rfl), fnB_ok Try.func136 (by kernel_rfl), fnB_ok Try.func137 (by kernel_rfl), fnB_ok Try.func138 (by kernel_rfl), fnB_ok Try.func139 (by kernel_rfl), fnB_ok Try.func140 (by kernel_rfl), fnB_ok Try.func141 (by kernel_rfl), fnB_ok Try.func142 (by kernel_rfl), fnB_ok Try.func143 (by kernel_rfl), fnB_ok Try.func144 (by kernel_rfl), trivial⟩
theorem exts : ∀ f g, cfg.ext f = some g → ExtOK Try.prog f g := allE_look (tab := etab) ⟨clone_ok (tysB_ok tys) (fnB_ok Try.func41 (by kernel_rfl)) clone41, clone_ok (tysB_ok tys) (fnB_ok Try.func84 (by kernel_rfl)) clone84, clone_ok (tysB_ok tys) (fnB_ok Try.func85 (by kernel_rfl)) clone85, trivial⟩
theorem cfg_ext41 : cfg.ext 41 = some (cloneExt 3) := by kernel_rfl
theorem cfg_ext84 : cfg.ext 84 = some (cloneExt 0) := by kernel_rfl
theorem cfg_ext85 : cfg.ext 85 = some (cloneExt 3) := by kernel_rfl
end Go.Cf

namespace Go.Cf
open Go Go.Ab
set_option linter.unusedVariables false
set_option maxRecDepth 100000
def n_main_main : Nat := 0
def n_gosem_cut : Nat := 1
def n_gosem_cut_init : Nat := 2
def n_roadbooklaw04_DataLess : Nat := 3
def n_roadbooklaw04_DataCols : Nat := 4
def n_roadbooklaw04_DataTells : Nat := 5
def n_roadbooklaw04_DataOf : Nat := 6
def n_roadbooklaw03_BagGroups : Nat := 7
def n_roadbooklaw04_awake : Nat := 8
def n_roadbooklaw04_few : Nat := 9
def n_data_Fits : Nat := 10
def n_data_May : Nat := 11
def n_data_Col : Nat := 12
def n_data_Split : Nat := 13
def n_data_Of : Nat := 14
def n_roadbookref04_Of : Nat := 15
def n_data_New : Nat := 16
def n_roadbookref04_New : Nat := 17
def n_roadbookref04_Split : Nat := 18
def n_roadbookref03_Like : Nat := 19
def n_roadbookref04_Same : Nat := 20
def n_roadbookref04_May : Nat := 21
def n_roadbookref04_Fits : Nat := 22
def n_roadbookref04_Col : Nat := 23
def n_bag_Cross : Nat := 24
def n_bag_May : Nat := 25
def n_roadbookref03_Row : Nat := 26
def n_roadbooklaw03_awake : Nat := 27
def n_roadbooklaw03_few : Nat := 28
def n_bag_Group : Nat := 29
def n_bag_Sort : Nat := 30
def n_bag_Sorted : Nat := 31
def n_roadbooklaw04_Two : Nat := 32
def n_data_Fits_1 : Nat := 33
def n_data_row : Nat := 34
def n_slices_ContainsFunc_api_Val_api_Val_3020 : Nat := 35
def n_data_in : Nat := 36
def n_slices_ContainsFunc_api_Def_api_Def : Nat := 37
def n_data_May_1 : Nat := 38
def n_data_one : Nat := 39
def n_bag_Keep : Nat := 40
def n_slices_Clone_api_Def_api_Def : Nat := 41
def n_roadbookref02_Ints : Nat := 42
def n_roadbookref01_May : Nat := 43
def n_slices_Concat_int_int : Nat := 44
def n_slices_Concat_api_Val_api_Val : Nat := 45
def n_bag_May_1 : Nat := 46
def n_val_May : Nat := 47
def n_slices_ContainsFunc_api_Val_api_Val_c5fc : Nat := 48
def n_roadbooklaw03_Three : Nat := 49
def n_slices_Index_int_int : Nat := 50
def n_bag_Group_1 : Nat := 51
def n_slices_Contains_int_int : Nat := 52
def n_slices_ContainsFunc_int_int : Nat := 53
def n_bag_of : Nat := 54
def n_slices_SortFunc_bag_key_bag_key : Nat := 55
def n_bag_compare : Nat := 56
def n_val_Of : Nat := 57
def n_val_Sum : Nat := 58
def n_bag_some : Nat := 59
def n_bag_Sort_1 : Nat := 60
def n_slices_SortStableFunc_api_Val_api_Val : Nat := 61
def n_bag_Sort_2 : Nat := 62
def n_slices_IsSortedFunc_api_Val_api_Val : Nat := 63
def n_bag_Sorted_1 : Nat := 64
def n_data_row_1 : Nat := 65
def n_slices_IndexFunc_api_Val_api_Val_fa1b : Nat := 66
def n_slices_IndexFunc_api_Def_api_Def : Nat := 67
def n_bag_Keep_1 : Nat := 68
def n_slices_ContainsFunc_api_Expr_api_Expr : Nat := 69
def n_bag_Keep_1_1 : Nat := 70
def n_expr_Keeps : Nat := 71
def n_slices_Grow_int_int : Nat := 72
def n_slices_Grow_api_Val_api_Val : Nat := 73
def n_slices_IndexFunc_api_Val_api_Val_b1f6 : Nat := 74
def n_slices_IndexFunc_int_int : Nat := 75
def n_slices_pdqsortCmpFunc_bag_key : Nat := 76
def n_bits_Len : Nat := 77
def n_slices_Compare_int_int : Nat := 78
def n_val_some_api_Val : Nat := 79
def n_val_kind : Nat := 80
def n_val_bad : Nat := 81
def n_bits_Add64 : Nat := 82
def n_val_null : Nat := 83
def n_slices_Clone_int_int : Nat := 84
def n_slices_Clone_api_Val_api_Val : Nat := 85
def n_slices_stableCmpFunc_api_Val : Nat := 86
def n_slices_IndexFunc_api_Expr_api_Expr : Nat := 87
def n_val_True : Nat := 88
def n_expr_Eval : Nat := 89
def n_slices_insertionSortCmpFunc_bag_key : Nat := 90
def n_slices_heapSortCmpFunc_bag_key : Nat := 91
def n_slices_breakPatternsCmpFunc_bag_key : Nat := 92
def n_slices_choosePivotCmpFunc_bag_key : Nat := 93
def n_slices_reverseRangeCmpFunc_bag_key : Nat := 94
def n_slices_partialInsertionSortCmpFunc_bag_key : Nat := 95
def n_slices_partitionEqualCmpFunc_bag_key : Nat := 96
def n_slices_partitionCmpFunc_bag_key : Nat := 97
def n_bits_Len32 : Nat := 98
def n_bits_Len64 : Nat := 99
def n_cmp_Compare_int : Nat := 100
def n_val_kind_1 : Nat := 101
def n_val_fine : Nat := 102
def n_slices_insertionSortCmpFunc_api_Val : Nat := 103
def n_slices_symMergeCmpFunc_api_Val : Nat := 104
def n_expr_May : Nat := 105
def n_expr_eval : Nat := 106
def n_slices_siftDownCmpFunc_bag_key : Nat := 107
def n_slices_nextPowerOfTwo : Nat := 108
def n_slices_xorshift_Next : Nat := 109
def n_slices_medianAdjacentCmpFunc_bag_key : Nat := 110
def n_slices_medianCmpFunc_bag_key : Nat := 111
def n_cmp_isNaN_int : Nat := 112
def n_slices_rotateCmpFunc_api_Val : Nat := 113
def n_expr_each : Nat := 114
def n_expr_May_1 : Nat := 115
def n_expr_part : Nat := 116
def n_expr_ways : Nat := 117
def n_slices_order2CmpFunc_bag_key : Nat := 118
def n_slices_swapRangeCmpFunc_api_Val : Nat := 119
def n_expr_two : Nat := 120
def n_val_Add : Nat := 121
def n_val_Sub : Nat := 122
def n_val_Mul : Nat := 123
def n_val_Div : Nat := 124
def n_val_Eq : Nat := 125
def n_val_Lt : Nat := 126
def n_expr_ways_1 : Nat := 127
def n_val_And : Nat := 128
def n_expr_ways_2 : Nat := 129
def n_val_Or : Nat := 130
def n_expr_ways_3 : Nat := 131
def n_val_Not : Nat := 132
def n_expr_two_1 : Nat := 133
def n_val_reckon : Nat := 134
def n_val_Add_1 : Nat := 135
def n_val_Sub_1 : Nat := 136
def n_val_Mul_1 : Nat := 137
def n_bits_Mul64 : Nat := 138
def n_val_size : Nat := 139
def n_val_Div_1 : Nat := 140
def n_val_odd : Nat := 141
def n_val_of : Nat := 142
def n_val_three : Nat := 143
def n_val_isFalse : Nat := 144
def n_runtime_boundsError_Error : Nat := 145
def n_runtime_boundsError_RuntimeError : Nat := 146
def n_runtime_errorString_Error : Nat := 147
def n_runtime_errorString_RuntimeError : Nat := 148
def n_runtime_plainError_Error : Nat := 149
def n_runtime_plainError_RuntimeError : Nat := 150
def n_runtime_errorAddressString_Error : Nat := 151
def n_runtime_errorAddressString_RuntimeError : Nat := 152
def n_runtime_TypeAssertionError_Error : Nat := 153
def n_runtime_TypeAssertionError_RuntimeError : Nat := 154
def n_runtime_PanicNilError_Error : Nat := 155
def n_runtime_PanicNilError_RuntimeError : Nat := 156
def n_abi_Type_Align : Nat := 157
def n_maps_unhashableTypeError_Error : Nat := 158
def n_maps_unhashableTypeError_RuntimeError : Nat := 159
def n_abi_Kind_String : Nat := 160
def t_int64 : Nat := 2
def t_int : Nat := 3
def t_bool : Nat := 4
def t_uint8 : Nat := 5
def t_abi_BoundsErrorCode : Nat := 6
def t_struct_x_int64_y_int_signed_bool_code_abi_BoundsErrorCode : Nat := 7
def t_runtime_boundsError : Nat := 8
def t_string : Nat := 9
def t_runtime_errorString : Nat := 10
def t_runtime_plainError : Nat := 11
def t_uintptr : Nat := 12
def t_struct_msg_string_addr_uintptr : Nat := 13
def t_runtime_errorAddressString : Nat := 14
def t_runtime_TypeAssertionError : Nat := 15
def t_runtime_PanicNilError : Nat := 16
def t_abi_Type : Nat := 17
def t_struct_typ_abi_Type : Nat := 18
def t_maps_unhashableTypeError : Nat := 19
def t_int32 : Nat := 21
def t_s_api_Def : Nat := 22
def t_struct_T_s_api_Def : Nat := 23
def t_api_Cat : Nat := 24
def t_s_s_s_api_Val : Nat := 25
def t_struct_T_s_s_s_api_Val : Nat := 26
def t_api_Data : Nat := 27
def t_s_s_api_Val : Nat := 31
def t_s_api_Val : Nat := 32
def t_struct_K_int_N_int : Nat := 33
def t_api_Val : Nat := 34
def t_s_int : Nat := 41
def t_struct_Cols_s_int_Rows_s_s_api_Val : Nat := 42
def t_api_Bag : Nat := 43
def t_struct_Cols_int_Rows_int : Nat := 62
def t_api_Def : Nat := 63
def t_a16_bool : Nat := 74
def t_map_bag_key_s_s_api_Val : Nat := 81
def t_s_bag_key : Nat := 82
def t_a2_int : Nat := 83
def t_bag_key : Nat := 84
def t_s_api_Expr : Nat := 96
def t_struct_Op_int_Col_int_V_api_Val_L_s_api_Expr : Nat := 98
def t_api_Expr : Nat := 99
def t_s_s_int : Nat := 102
def t_uint : Nat := 109
def t_uint64 : Nat := 113
def t_slices_sortedHint : Nat := 122
def t_uint32 : Nat := 130
def t_slices_xorshift : Nat := 135
def t_struct_low_int_high_int_of_func_s_api_Val_api_Val : Nat := 144
def t_expr_way : Nat := 145
def t_struct__interface_abi_Type_concrete_abi_Type_asserted_abi_Type_missingMethod_string : Nat := 161
def t_a0__runtime_PanicNilError : Nat := 163
def t_struct___a0__runtime_PanicNilError : Nat := 164
def t_abi_TFlag : Nat := 167
def t_abi_Kind : Nat := 168
def t_abi_NameOff : Nat := 171
def t_abi_TypeOff : Nat := 172
def t_struct_Size__uintptr_PtrBytes_uintptr_Hash_uint32_TFlag_abi_TFlag_Align__uint8_FieldAlign__uint8_Kind__abi_Kind_Equal_func_unsafe_Pointer_unsafe_Pointer_bool_GCData_uint8_Str_abi_NameOff_PtrToThis_abi_TypeOff : Nat := 173
def t_unsafe_Pointer : Nat := 175
theorem exW : ∃ W : Wf, W = evw cfg := ⟨_, rfl⟩
noncomputable def W : Wf := Classical.choose exW
theorem W_eq : W = evw cfg := Classical.choose_spec exW
theorem exT (fi : FnI) {R : Type} (fin : Ex → St → Option R) : ∃ jl : Jn R × Ln R, Tied cfg W fi fin jl.1 jl.2 := ⟨(_, _), tied cfg W fi fin⟩
theorem wq {f : FuncId} {fi : FnI} (he : cfg.ext f = none) (hf : cfg.fn f = some fi) (args : List PV) : wc W f args = body cfg W lpw fi args := by rw [W_eq]; exact evw_eq he hf args
theorem wqO {f : FuncId} {fi : FnI} (he : cfg.ext f = none) (hf : cfg.fn f = some fi) (raw : Bool) (args : List AV) (ow : List Ob) : W f raw args ow = bodyO cfg W lpw fi raw args ow := by rw [W_eq]; exact evw_eqO he hf raw args ow
theorem go {f : FuncId} {fi : FnI} {args : List PV} {r : Option PV} {jn : Jn PV} {ln : Ln PV} (he : cfg.ext f = none) (hf : cfg.fn f = some fi) (h : Tied cfg W fi (fin cfg fi) jn ln) (e : (bif args.length == fi.np then Gf cfg W fi jn ln fi.code [] ⟨args0 0 args, []⟩ (fin cfg fi) else none) = r) : wc W f args = r := (wq he hf args).trans ((h.body args).trans e)
theorem goO {f : FuncId} {fi : FnI} {raw : Bool} {n : Nat} {args : List AV} {ow : List Ob} {r : Option (AV × List Ob)} {jn : Jn (AV × List Ob)} {ln : Ln (AV × List Ob)} (he : cfg.ext f = none) (hf : cfg.fn f = some fi) (h : Tied cfg W fi (finO cfg fi raw n) jn ln) (hn : ow.length = n) (e : (bif args.length == fi.np then Gf cfg W fi jn ln fi.code [] ⟨args0A 0 args, ow⟩ (finO cfg fi raw n) else none) = r) : W f raw args ow = r := (wqO he hf raw args ow).trans ((h.bodyO args ow hn).trans e)
def c_b {R : Type} (p : PV) (K : Bool → Option R) : Option R := (PV.asBool p).bind fun zzx0 => K zzx0
@[simp] theorem c_b_mk (zzx0 : Bool) {R : Type} (K : Bool → Option R) : c_b (PV.bool zzx0) K = K zzx0 := rfl
def c_g_i64_i64 {R : Type} (p : PV) (K : Int → Int → Option R) : Option R := (PV.asAgg p).bind fun c0 => (c0[0]?).bind fun p1 => (PV.asIntK .i64 p1).bind fun zzx2 => (c0[1]?).bind fun p3 => (PV.asIntK .i64 p3).bind fun zzx4 => bif c0.length == 2 then (K zzx2 zzx4) else none
@[simp] theorem c_g_i64_i64_mk (zzx2 : Int) (zzx4 : Int) {R : Type} (K : Int → Int → Option R) : c_g_i64_i64 (PV.agg [(PV.int .i64 zzx2), (PV.int .i64 zzx4)]) K = K zzx2 zzx4 := rfl
def c_g_i64_i64_i64_i64_s6 {R : Type} (p : PV) (K : Int → Int → Int → Int → List PV → Option R) : Option R := (PV.asAgg p).bind fun c0 => (c0[0]?).bind fun p1 => (PV.asIntK .i64 p1).bind fun zzx2 => (c0[1]?).bind fun p3 => (PV.asIntK .i64 p3).bind fun zzx4 => (c0[2]?).bind fun p5 => (PV.asIntK .i64 p5).bind fun zzx6 => (c0[3]?).bind fun p7 => (PV.asIntK .i64 p7).bind fun zzx8 => (c0[4]?).bind fun p9 => (PV.asSlice 6 p9).bind fun zzx10 => bif c0.length == 5 then (K zzx2 zzx4 zzx6 zzx8 zzx10) else none
@[simp] theorem c_g_i64_i64_i64_i64_s6_mk (zzx2 : Int) (zzx4 : Int) (zzx6 : Int) (zzx8 : Int) (zzx10 : List PV) {R : Type} (K : Int → Int → Int → Int → List PV → Option R) : c_g_i64_i64_i64_i64_s6 (PV.agg [(PV.int .i64 zzx2), (PV.int .i64 zzx4), (PV.int .i64 zzx6), (PV.int .i64 zzx8), (PV.slice 6 zzx10)]) K = K zzx2 zzx4 zzx6 zzx8 zzx10 := rfl
def c_g_i64_i64_p {R : Type} (p : PV) (K : Int → Int → PV → Option R) : Option R := (PV.asAgg p).bind fun c0 => (c0[0]?).bind fun p1 => (PV.asIntK .i64 p1).bind fun zzx2 => (c0[1]?).bind fun p3 => (PV.asIntK .i64 p3).bind fun zzx4 => (c0[2]?).bind fun p5 => (some p5).bind fun zzx6 => bif c0.length == 3 then (K zzx2 zzx4 zzx6) else none
@[simp] theorem c_g_i64_i64_p_mk (zzx2 : Int) (zzx4 : Int) (zzx6 : PV) {R : Type} (K : Int → Int → PV → Option R) : c_g_i64_i64_p (PV.agg [(PV.int .i64 zzx2), (PV.int .i64 zzx4), zzx6]) K = K zzx2 zzx4 zzx6 := rfl
def c_g_s0 {R : Type} (p : PV) (K : List PV → Option R) : Option R := (PV.asAgg p).bind fun c0 => (c0[0]?).bind fun p1 => (PV.asSlice 0 p1).bind fun zzx2 => bif c0.length == 1 then (K zzx2) else none
@[simp] theorem c_g_s0_mk (zzx2 : List PV) {R : Type} (K : List PV → Option R) : c_g_s0 (PV.agg [(PV.slice 0 zzx2)]) K = K zzx2 := rfl
def c_g_s0_s0 {R : Type} (p : PV) (K : List PV → List PV → Option R) : Option R := (PV.asAgg p).bind fun c0 => (c0[0]?).bind fun p1 => (PV.asSlice 0 p1).bind fun zzx2 => (c0[1]?).bind fun p3 => (PV.asSlice 0 p3).bind fun zzx4 => bif c0.length == 2 then (K zzx2 zzx4) else none
@[simp] theorem c_g_s0_s0_mk (zzx2 : List PV) (zzx4 : List PV) {R : Type} (K : List PV → List PV → Option R) : c_g_s0_s0 (PV.agg [(PV.slice 0 zzx2), (PV.slice 0 zzx4)]) K = K zzx2 zzx4 := rfl
def c_g_s3 {R : Type} (p : PV) (K : List PV → Option R) : Option R := (PV.asAgg p).bind fun c0 => (c0[0]?).bind fun p1 => (PV.asSlice 3 p1).bind fun zzx2 => bif c0.length == 1 then (K zzx2) else none
@[simp] theorem c_g_s3_mk (zzx2 : List PV) {R : Type} (K : List PV → Option R) : c_g_s3 (PV.agg [(PV.slice 3 zzx2)]) K = K zzx2 := rfl
def c_i64 {R : Type} (p : PV) (K : Int → Option R) : Option R := (PV.asIntK .i64 p).bind fun zzx0 => K zzx0
@[simp] theorem c_i64_mk (zzx0 : Int) {R : Type} (K : Int → Option R) : c_i64 (PV.int .i64 zzx0) K = K zzx0 := rfl
def c_s0 {R : Type} (p : PV) (K : List PV → Option R) : Option R := (PV.asSlice 0 p).bind fun zzx0 => K zzx0
@[simp] theorem c_s0_mk (zzx0 : List PV) {R : Type} (K : List PV → Option R) : c_s0 (PV.slice 0 zzx0) K = K zzx0 := rfl
def c_s3 {R : Type} (p : PV) (K : List PV → Option R) : Option R := (PV.asSlice 3 p).bind fun zzx0 => K zzx0
@[simp] theorem c_s3_mk (zzx0 : List PV) {R : Type} (K : List PV → Option R) : c_s3 (PV.slice 3 zzx0) K = K zzx0 := rfl
def c_u64 {R : Type} (p : PV) (K : Int → Option R) : Option R := (PV.asIntK .u64 p).bind fun zzx0 => K zzx0
@[simp] theorem c_u64_mk (zzx0 : Int) {R : Type} (K : Int → Option R) : c_u64 (PV.int IntKind.u64 zzx0) K = K zzx0 := rfl
def k_5b106d {R : Type} (z : AV × List Ob) (K : PV → Int → Option R) : Option R := (AV.asPv z.1).bind fun q0 => (some q0).bind fun zzx1 => (z.2[0]?).bind fun p2 => (Ob.asVar false 0 p2).bind fun a3 => (AV.asPv a3).bind fun q4 => (PV.asIntK .i64 q4).bind fun zzx5 => bif z.2.length == 1 then (K zzx1 zzx5) else none
@[simp] theorem k_5b106d_mk (zzx1 : PV) (zzx5 : Int) {R : Type} (K : PV → Int → Option R) : k_5b106d ((AV.pv zzx1), [(Ob.var false 0 (AV.pv (PV.int .i64 zzx5)))]) K = K zzx1 zzx5 := rfl
def k_83ed81 {R : Type} (z : AV × List Ob) (K : List PV → Option R) : Option R := bif AV.isView 0 z.1 then ((z.2[0]?).bind fun p0 => (Ob.asRow false 0 3 p0).bind fun zzx1 => bif z.2.length == 1 then (K zzx1) else none) else none
@[simp] theorem k_83ed81_mk (zzx1 : List PV) {R : Type} (K : List PV → Option R) : k_83ed81 ((AV.view 0 0 none), [(Ob.row false 0 (3 : Nat) zzx1)]) K = K zzx1 := rfl
def k_d697de {R : Type} (z : AV × List Ob) (K : List PV → Option R) : Option R := bif AV.isView 0 z.1 then ((z.2[0]?).bind fun p0 => (Ob.asRow false 0 0 p0).bind fun zzx1 => bif z.2.length == 1 then (K zzx1) else none) else none
@[simp] theorem k_d697de_mk (zzx1 : List PV) {R : Type} (K : List PV → Option R) : k_d697de ((AV.view 0 0 none), [(Ob.row false 0 (0 : Nat) zzx1)]) K = K zzx1 := rfl
theorem x_slices_Clone_api_Def_api_Def (xs : List PV) (h : xs.length ≤ 4294967296) : wc W n_slices_Clone_api_Def_api_Def [PV.slice 3 xs] = some (PV.slice 3 xs) := by rw [W_eq]; exact clone_w cfg_ext41 xs h
theorem x_slices_Clone_int_int (xs : List PV) (h : xs.length ≤ 4294967296) : wc W n_slices_Clone_int_int [PV.slice 0 xs] = some (PV.slice 0 xs) := by rw [W_eq]; exact clone_w cfg_ext84 xs h
theorem x_slices_Clone_api_Val_api_Val (xs : List PV) (h : xs.length ≤ 4294967296) : wc W n_slices_Clone_api_Val_api_Val [PV.slice 3 xs] = some (PV.slice 3 xs) := by rw [W_eq]; exact clone_w cfg_ext85 xs h
end Go.Cf

namespace Go.Cf
open Go Go.Ab
set_option linter.unusedVariables false
def I64 (n : Int) : Prop := -9223372036854775808 ≤ n ∧ n ≤ 9223372036854775807
theorem wrap64 {n : Int} (h1 : -9223372036854775808 ≤ n) (h2 : n ≤ 9223372036854775807) : IntKind.wrap .i64 n = n := by
  simp only [IntKind.wrap, IntKind.bits, IntKind.signed]
  simp
  omega
theorem wrapI {n : Int} (h : I64 n) : IntKind.wrap .i64 n = n := wrap64 h.1 h.2
theorem wrap_nat {n : Nat} (h : n ≤ 9223372036854775807) : IntKind.wrap .i64 (n : Int) = n := wrap64 (by omega) (by omega)
theorem wrap_succ {n : Nat} (h : n < 9223372036854775807) : IntKind.wrap .i64 ((n : Int) + 1) = ((n + 1 : Nat) : Int) := by rw [wrap64 (by omega) (by omega)]; omega
@[simp] theorem asTup_mk (l : List PV) : PV.asTup (.tup l) = some l := rfl
@[simp] theorem asFn_mk (f : Nat) (a b : List PV) : PV.asFn (.fn f a b) = some (f, a, b) := rfl
@[simp] theorem nat_le (n : Nat) : decide ((0 : Int) ≤ (n : Int)) = true := by simp
theorem wf_i64 {n : Int} (h : (Lit.int .i64 n).wf = true) : I64 n := by
  simp only [Lit.wf, Bool.and_eq_true, decide_eq_true_eq] at h
  exact h
theorem bif_t {α : Type} (a b : α) : (bif true then a else b) = a := rfl
theorem bif_f {α : Type} (a b : α) : (bif false then a else b) = b := rfl
theorem toList_beq (a b : ByteArray) : (a.toList == b.toList) = decide (a = b) := by
  by_cases h : a = b
  · subst h; simp
  · rw [decide_eq_false h]
    simp only [beq_eq_false_iff_ne, ne_eq]
    intro e
    apply h
    have : a.data.toList = b.data.toList := by
      have e1 : ∀ x : ByteArray, x.toList = x.data.toList := fun x => ByteArray.toList_eq x
      rw [← e1, ← e1, e]
    cases a; cases b; simp_all
theorem loop_all {R : Type} (L : Int → Option R) (n : Nat) (p : Nat → Bool) (r s : Option R) (hs : ∀ i : Nat, i < n → L (i : Int) = bif p i then L ((i : Int) + 1) else r) (he : L (n : Int) = s) :
    L 0 = bif (List.range n).all p then s else r := by
  have : ∀ k i : Nat, i + k = n → L (i : Int) = bif (List.range' i k).all p then s else r := by
    intro k
    induction k with
    | zero => intro i h; simp at h; subst h; simpa using he
    | succ k ih =>
      intro i h
      rw [hs i (by omega), show ((i : Int) + 1) = ((i + 1 : Nat) : Int) by omega, ih (i + 1) (by omega), List.range'_succ, List.all_cons]
      cases p i <;> simp
  have h0 := this n 0 (by omega)
  rw [List.range_eq_range']
  exact h0
theorem all_get {α : Type} (l : List α) (q : α → Bool) : ((List.range l.length).all fun i => (l[i]?).all q) = l.all q := by
  rw [Bool.eq_iff_iff, List.all_eq_true, List.all_eq_true]
  constructor
  · intro h x hx
    obtain ⟨i, hi, rfl⟩ := List.mem_iff_getElem.1 hx
    have := h i (by simpa using hi)
    simpa [List.getElem?_eq_getElem hi] using this
  · intro h i hi
    have hi' : i < l.length := by simpa using hi
    simpa [List.getElem?_eq_getElem hi'] using h _ (List.getElem_mem hi')
theorem lt_len {i n : Nat} (h : i < n) : decide ((i : Int) < (n : Int)) = true := by simpa using h
theorem ge_len {n : Nat} : decide ((n : Int) < (n : Int)) = false := by simp
theorem bne_t {α : Type} [BEq α] [LawfulBEq α] {a b : α} (h : a ≠ b) : (a != b) = true := by simpa using h
theorem bne_f {α : Type} [BEq α] [LawfulBEq α] {a b : α} (h : a = b) : (a != b) = false := by simpa using h
theorem beq_t {α : Type} [BEq α] [LawfulBEq α] {a b : α} (h : a = b) : (a == b) = true := by simpa using h
theorem beq_f {α : Type} [BEq α] [LawfulBEq α] {a b : α} (h : a ≠ b) : (a == b) = false := by simpa using h
theorem all_eq {α : Type} [DecidableEq α] (a b : List α) (e : a.length = b.length) : ((List.range a.length).all fun i => decide (a[i]? = b[i]?)) = decide (a = b) := by
  by_cases hab : a = b
  · subst hab; simp
  · rw [decide_eq_false hab, Bool.eq_false_iff]
    intro hall
    apply hab
    rw [List.all_eq_true] at hall
    apply List.ext_getElem?
    intro i
    by_cases hi : i < a.length
    · simpa using hall i (by simpa using hi)
    · rw [List.getElem?_eq_none (by omega), List.getElem?_eq_none (by omega)]
end Go.Cf
