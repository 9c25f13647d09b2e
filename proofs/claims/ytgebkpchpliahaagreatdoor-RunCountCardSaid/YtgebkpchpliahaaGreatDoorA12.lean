/- Part 13 of the proof: an abstract machine that runs the program's code over plain values, its soundness, and what the functions tell of plain values. Conditions: those in each theorem. -/
import Derived.Test.YtgebkpchpliahaaGreatDoorA11
import Derived.Shelf.Sort.Plain
import Derived.Shelf.Slices.In.SortNone
import Derived.Shelf.Slices.CompactI
import Derived.Shelf.Bits.Mul64
import Derived.Shelf.Small.Bits
import Derived.Shelf.Strconv.Itoa3
import Derived.Shelf.Strings.Builder2
import Derived.Test.YtgebkpchpliahaaGreatDoorProg
import Derived.WalkKit
import Derived.Deep.RegionWith
import Derived.Laws.Externs
import Derived.Deep.LoopGhost
import Derived.Lib.AtoiErrMem
import Derived.Lib.ItoaLen
set_option linter.unusedSectionVars false
set_option linter.unusedVariables false
set_option linter.unusedSimpArgs false
noncomputable section
namespace Go.Proofs
open Go.Shelf
def Tryz.lays169_ren:Go.Shelf.Ren:=⟨λ | 169=>123 | n=>n,λ | 70=>150 | 9=>9 | 0=>0 | 72=>153 | 37=>151 | 127=>202 | 3=>3 | 5=>5 | n=>n,λ | n=>n⟩
theorem Tryz.lays169:Go.Proofs.Lays.n169 Tryz.prog Tryz.lays169_ren:={
 mixed:=by kernel_rfl
 f169:=Tryz.func123.trans (congrArg some (by kernel_rfl))
 t0:=Tryz.underlying0
 a0:=Tryz.isAgg0
 z0:=Tryz.sizeOf0
 v0:=Tryz.zeroValue0
 t3:=Tryz.underlying3
 a3:=Tryz.isAgg3
 z3:=Tryz.sizeOf3
 v3:=Tryz.zeroValue3
 t9:=Tryz.underlying9
 a9:=Tryz.isAgg9
 z9:=Tryz.sizeOf9
 v9:=Tryz.zeroValue9
 t37:=Tryz.underlying151
 a37:=Tryz.isAgg151
 z37:=Tryz.sizeOf151
 v37:=Tryz.zeroValue151
 t70:=Tryz.underlying150
 a70:=Tryz.isAgg150
 z70:=Tryz.sizeOf150
 v70:=Tryz.zeroValue150
 t72:=Tryz.underlying153
 a72:=Tryz.isAgg153
 z72:=Tryz.sizeOf153
 v72:=Tryz.zeroValue153
 t127:=Tryz.underlying202
 a127:=Tryz.isAgg202
 z127:=Tryz.sizeOf202
 v127:=Tryz.zeroValue202 }
theorem Tryz.Builder_Extra_169:Builder.Extra Tryz.prog Tryz.lays169_ren:={
 sizeBuilder:=by kernel_rfl
 liesBuilder:=by kernel_rfl
 t5:=Tryz.underlying5
 a5:=Tryz.isAgg5
 z5:=Tryz.sizeOf5
 v5:=Tryz.zeroValue5
 infoByte:=by kernel_rfl
 cellsByte:=by kernel_rfl
 sizeByte:=by kernel_rfl
 neB5:=by decide }
open Go.RowKit in
theorem Tryz.Builder_String_any(B b:Nat) (l:List UInt8) (w:World) (h:Lib.IsBuilder 153 5 B b (Lib.byteCells l) w) (hBw:B<=w.heap.size) :
 Calls Tryz.prog 123 #[.pointer (some ⟨b,0,none⟩)] w λ e w' =>e= .returned (.string ⟨l.toArray⟩)/\Below B w w' :=Any.Builder_String_any Tryz.lays169 Tryz.Builder_Extra_169 B b l w h hBw
def Tryz.laysM171_ren:Go.Shelf.Ren:=⟨λ | 171=>122 | 243=>181 | 246=>220 | 283=>250 | 284=>251 | 285=>252 | 286=>253 | 129=>234 | 317=>286 | 318=>287 | 319=>288 | 320=>289 | 337=>306 | 338=>307 | n=>n,λ | 3=>3 | 9=>9 | 2=>2 | 4=>4 | 171=>254 | 0=>0 | 53=>217 | 37=>151 | 5=>5 | 173=>256 | 212=>269 | 51=>246 | 20=>20 | 213=>270 | 46=>209 | 232=>282 | 233=>283 | n=>n,λ | 17=>0 | 18=>1 | 19=>2 | n=>n⟩
theorem Tryz.laysM171:Go.Proofs.LaysM.n171 Tryz.prog Tryz.laysM171_ren:={
 mixed:=by kernel_rfl
 f129:=Tryz.func234.trans (congrArg some (by kernel_rfl))
 f171:=Tryz.func122.trans (congrArg some (by kernel_rfl))
 f243:=Tryz.func181.trans (congrArg some (by kernel_rfl))
 f246:=Tryz.func220.trans (congrArg some (by kernel_rfl))
 f283:=Tryz.func250.trans (congrArg some (by kernel_rfl))
 f284:=Tryz.func251.trans (congrArg some (by kernel_rfl))
 f285:=Tryz.func252.trans (congrArg some (by kernel_rfl))
 f286:=Tryz.func253.trans (congrArg some (by kernel_rfl))
 f317:=Tryz.func286.trans (congrArg some (by kernel_rfl))
 f318:=Tryz.func287.trans (congrArg some (by kernel_rfl))
 f319:=Tryz.func288.trans (congrArg some (by kernel_rfl))
 f320:=Tryz.func289.trans (congrArg some (by kernel_rfl))
 f337:=Tryz.func306.trans (congrArg some (by kernel_rfl))
 f338:=Tryz.func307.trans (congrArg some (by kernel_rfl))
 t0:=Tryz.underlying0
 a0:=Tryz.isAgg0
 z0:=Tryz.sizeOf0
 v0:=Tryz.zeroValue0
 t2:=Tryz.underlying2
 a2:=Tryz.isAgg2
 z2:=Tryz.sizeOf2
 v2:=Tryz.zeroValue2
 t3:=Tryz.underlying3
 a3:=Tryz.isAgg3
 z3:=Tryz.sizeOf3
 v3:=Tryz.zeroValue3
 t4:=Tryz.underlying4
 a4:=Tryz.isAgg4
 z4:=Tryz.sizeOf4
 v4:=Tryz.zeroValue4
 t5:=Tryz.underlying5
 a5:=Tryz.isAgg5
 z5:=Tryz.sizeOf5
 v5:=Tryz.zeroValue5
 t9:=Tryz.underlying9
 a9:=Tryz.isAgg9
 z9:=Tryz.sizeOf9
 v9:=Tryz.zeroValue9
 t20:=Tryz.underlying20
 a20:=Tryz.isAgg20
 z20:=Tryz.sizeOf20
 v20:=Tryz.zeroValue20
 t37:=Tryz.underlying151
 a37:=Tryz.isAgg151
 z37:=Tryz.sizeOf151
 v37:=Tryz.zeroValue151
 t46:=Tryz.underlying209
 a46:=Tryz.isAgg209
 z46:=Tryz.sizeOf209
 v46:=Tryz.zeroValue209
 t51:=Tryz.underlying246
 a51:=Tryz.isAgg246
 z51:=Tryz.sizeOf246
 v51:=Tryz.zeroValue246
 t53:=Tryz.underlying217
 a53:=Tryz.isAgg217
 z53:=Tryz.sizeOf217
 v53:=Tryz.zeroValue217
 t171:=Tryz.underlying254
 a171:=Tryz.isAgg254
 z171:=Tryz.sizeOf254
 v171:=Tryz.zeroValue254
 t173:=Tryz.underlying256
 a173:=Tryz.isAgg256
 z173:=Tryz.sizeOf256
 v173:=Tryz.zeroValue256
 t212:=Tryz.underlying269
 a212:=Tryz.isAgg269
 z212:=Tryz.sizeOf269
 v212:=Tryz.zeroValue269
 t213:=Tryz.underlying270
 a213:=Tryz.isAgg270
 z213:=Tryz.sizeOf270
 t232:=Tryz.underlying282
 a232:=Tryz.isAgg282
 z232:=Tryz.sizeOf282
 v232:=Tryz.zeroValue282
 t233:=Tryz.underlying283
 a233:=Tryz.isAgg283
 z233:=Tryz.sizeOf283
 v233:=Tryz.zeroValue283
 g17:=by kernel_rfl
 g18:=by kernel_rfl
 g19:=by kernel_rfl
 i0:=by kernel_rfl
 i2:=by kernel_rfl
 i3:=by kernel_rfl
 i4:=by kernel_rfl
 i5:=by kernel_rfl
 i9:=by kernel_rfl
 i20:=by kernel_rfl
 i37:=by kernel_rfl
 i46:=by kernel_rfl
 i51:=by kernel_rfl
 i53:=by kernel_rfl
 i171:=by kernel_rfl
 i173:=by kernel_rfl
 i212:=by kernel_rfl
 i232:=by kernel_rfl
 i233:=by kernel_rfl
 m17:=by kernel_rfl
 m18:=by kernel_rfl
 m19:=by kernel_rfl }
open Go.RowKit Go.Sort Go.Lib in
theorem Tryz.strconv_Itoa(n:Int) (h0: -9223372036854775808<=n) (h1:n<=9223372036854775807) (w:World) (htab:Lib.TabIs Tryz.prog w "internal/strconv.uint64pow10" .u64 Lib.pow10Tab) :
 Calls Tryz.prog 122 #[.int .i64 n] w λ e w' =>e= .returned (.string ⟨(Lib.itoa n).toArray⟩)/\∃ k os,w' =grow (w.drewN k) os:=Any.strconv_Itoa Tryz.laysM171 n h0 h1 w htab
def Tryz.lays189_ren:Go.Shelf.Ren:=⟨λ | 189=>139 | 125=>190 | 257=>189 | 128=>233 | 129=>234 | 294=>224 | 295=>225 | 296=>226 | 297=>227 | 298=>228 | 299=>229 | 216=>230 | 300=>231 | 301=>232 | 328=>266 | 329=>267 | 330=>268 | 331=>269 | 332=>270 | 215=>221 | 343=>300 | n=>n,λ | 28=>28 | 3=>3 | 46=>209 | 0=>0 | 51=>246 | 53=>217 | 4=>4 | 183=>240 | 182=>239 | 131=>124 | 5=>5 | 9=>9 | 218=>259 | 222=>263 | 228=>276 | 229=>277 | n=>n,λ | n=>n⟩
theorem Tryz.lays189:Go.Proofs.Lays.n189 Tryz.prog Tryz.lays189_ren:={
 mixed:=by kernel_rfl
 f125:=Tryz.func190.trans (congrArg some (by kernel_rfl))
 f128:=Tryz.func233.trans (congrArg some (by kernel_rfl))
 f129:=Tryz.func234.trans (congrArg some (by kernel_rfl))
 f189:=Tryz.func139.trans (congrArg some (by kernel_rfl))
 f215:=Tryz.func221.trans (congrArg some (by kernel_rfl))
 f216:=Tryz.func230.trans (congrArg some (by kernel_rfl))
 f257:=Tryz.func189.trans (congrArg some (by kernel_rfl))
 f294:=Tryz.func224.trans (congrArg some (by kernel_rfl))
 f295:=Tryz.func225.trans (congrArg some (by kernel_rfl))
 f296:=Tryz.func226.trans (congrArg some (by kernel_rfl))
 f297:=Tryz.func227.trans (congrArg some (by kernel_rfl))
 f298:=Tryz.func228.trans (congrArg some (by kernel_rfl))
 f299:=Tryz.func229.trans (congrArg some (by kernel_rfl))
 f300:=Tryz.func231.trans (congrArg some (by kernel_rfl))
 f301:=Tryz.func232.trans (congrArg some (by kernel_rfl))
 f328:=Tryz.func266.trans (congrArg some (by kernel_rfl))
 f329:=Tryz.func267.trans (congrArg some (by kernel_rfl))
 f330:=Tryz.func268.trans (congrArg some (by kernel_rfl))
 f331:=Tryz.func269.trans (congrArg some (by kernel_rfl))
 f332:=Tryz.func270.trans (congrArg some (by kernel_rfl))
 f343:=Tryz.func300.trans (congrArg some (by kernel_rfl))
 t0:=Tryz.underlying0
 a0:=Tryz.isAgg0
 z0:=Tryz.sizeOf0
 v0:=Tryz.zeroValue0
 t3:=Tryz.underlying3
 a3:=Tryz.isAgg3
 z3:=Tryz.sizeOf3
 v3:=Tryz.zeroValue3
 t4:=Tryz.underlying4
 a4:=Tryz.isAgg4
 z4:=Tryz.sizeOf4
 v4:=Tryz.zeroValue4
 t5:=Tryz.underlying5
 a5:=Tryz.isAgg5
 z5:=Tryz.sizeOf5
 v5:=Tryz.zeroValue5
 t9:=Tryz.underlying9
 a9:=Tryz.isAgg9
 z9:=Tryz.sizeOf9
 v9:=Tryz.zeroValue9
 t28:=Tryz.underlying28
 a28:=Tryz.isAgg28
 z28:=Tryz.sizeOf28
 v28:=Tryz.zeroValue28
 t46:=Tryz.underlying209
 a46:=Tryz.isAgg209
 z46:=Tryz.sizeOf209
 v46:=Tryz.zeroValue209
 t51:=Tryz.underlying246
 a51:=Tryz.isAgg246
 z51:=Tryz.sizeOf246
 v51:=Tryz.zeroValue246
 t53:=Tryz.underlying217
 a53:=Tryz.isAgg217
 z53:=Tryz.sizeOf217
 v53:=Tryz.zeroValue217
 t131:=Tryz.underlying124
 a131:=Tryz.isAgg124
 z131:=Tryz.sizeOf124
 v131:=Tryz.zeroValue124
 t182:=Tryz.underlying239
 a182:=Tryz.isAgg239
 z182:=Tryz.sizeOf239
 v182:=Tryz.zeroValue239
 t183:=Tryz.underlying240
 a183:=Tryz.isAgg240
 z183:=Tryz.sizeOf240
 v183:=Tryz.zeroValue240
 t218:=Tryz.underlying259
 a218:=Tryz.isAgg259
 z218:=Tryz.sizeOf259
 v218:=Tryz.zeroValue259
 t222:=Tryz.underlying263
 a222:=Tryz.isAgg263
 z222:=Tryz.sizeOf263
 v222:=Tryz.zeroValue263
 t228:=Tryz.underlying276
 a228:=Tryz.isAgg276
 z228:=Tryz.sizeOf276
 v228:=Tryz.zeroValue276
 t229:=Tryz.underlying277
 a229:=Tryz.isAgg277
 z229:=Tryz.sizeOf277
 v229:=Tryz.zeroValue277 }
open Go.Sort Go.RowKit in
theorem Tryz.slices_Sort_int(blk off cap:Nat) (zs:List Int) (w:World) (hH:Holds (Value.int .i64) w blk off zs.toArray) (hblk:blk<w.heap.size) (hsz:zs.length<4611686018427387904) :
 Calls Tryz.prog 139 #[.slice (some ⟨blk,off,none⟩) zs.length cap] w λ e w' =>
  e= .returned (.tuple #[])/\∃ n os,w' =grow (putRow (Value.int .i64) (Sort.ahead w n) blk off (zs.mergeSort λ x y=>decide (x<=y)).toArray) os:=Any.slices_Sort_int Tryz.lays189 blk off cap zs w hH hblk hsz
def Tryz.lays264_ren:Go.Shelf.Ren:=⟨λ | 264=>295 | n=>n,λ | 53=>217 | 46=>209 | n=>n,λ | n=>n⟩
theorem Tryz.lays264:Go.Proofs.Lays.n264 Tryz.prog Tryz.lays264_ren:={
 mixed:=by kernel_rfl
 f264:=Tryz.func295.trans (congrArg some (by kernel_rfl))
 t46:=Tryz.underlying209
 a46:=Tryz.isAgg209
 z46:=Tryz.sizeOf209
 v46:=Tryz.zeroValue209
 t53:=Tryz.underlying217
 a53:=Tryz.isAgg217
 z53:=Tryz.sizeOf217
 v53:=Tryz.zeroValue217 }
open Go.RowKit Go.Lib in
theorem Tryz.bits_Mul64(x y:Nat) (hx:x<18446744073709551616) (hy:y<18446744073709551616) (w:World) :
 Calls Tryz.prog 295 #[.int .u64 x,.int .u64 y] w λ e w' =>e= .returned (.tuple #[.int .u64 ((x*y / 18446744073709551616:Nat):Int),.int .u64 ((x*y % 18446744073709551616:Nat):Int)])/\w' =w:=Any.bits_Mul64 Tryz.lays264 x y hx hy w
def Tryz.laysNm220_ren:Go.Shelf.Ren:=⟨λ | 20=>140 | n=>n,λ | 22=>28 | 3=>3 | 4=>4 | 0=>0 | n=>n,λ | n=>n⟩
theorem Tryz.laysNm220:Go.Proofs.Lays2.n20 Tryz.prog Tryz.laysNm220_ren:={
 mixed:=by kernel_rfl
 f20:=Tryz.func140.trans (congrArg some (by kernel_rfl))
 t0:=Tryz.underlying0
 a0:=Tryz.isAgg0
 z0:=Tryz.sizeOf0
 v0:=Tryz.zeroValue0
 t3:=Tryz.underlying3
 a3:=Tryz.isAgg3
 z3:=Tryz.sizeOf3
 v3:=Tryz.zeroValue3
 t4:=Tryz.underlying4
 a4:=Tryz.isAgg4
 z4:=Tryz.sizeOf4
 v4:=Tryz.zeroValue4
 t22:=Tryz.underlying28
 a22:=Tryz.isAgg28
 z22:=Tryz.sizeOf28
 v22:=Tryz.zeroValue28
 i3:=by kernel_rfl }
open Go.RowKit Go.Lib Go.Sort in
theorem Tryz.slices_Compact_int(blk off cap:Nat) (zs:List Int) (w:World) (hH:Holds (Value.int .i64) w blk off zs.toArray) (hsz:zs.length<=9223372036854775807) (hcap:zs.length<=cap) :
 Calls Tryz.prog 140 #[.slice (some ⟨blk,off,none⟩) zs.length cap] w λ e w' =>e= .returned (.slice (some ⟨blk,off,none⟩) (Lib.compact zs).length cap)/\∃ q,w' =putRow (Value.int .i64) (Sort.ahead w q) blk off (Lib.compact zs++List.replicate (zs.length-(Lib.compact zs).length) 0).toArray:=Any.slices_Compact_int Tryz.laysNm220 blk off cap zs w hH hsz hcap
open Go.RowKit Go.Lib Go.Sort in
theorem Tryz.slices_Compact_int_empty(a:Option Addr) (cap:Nat) (w:World) :
 Calls Tryz.prog 140 #[.slice a 0 cap] w λ e w' =>e= .returned (.slice a 0 cap)/\w' =w:=Any.slices_Compact_int_empty Tryz.laysNm220 a cap w
open Go.RowKit Go.Sort in
theorem Tryz.slices_Sort_int_none(p:Option Addr) (cap:Nat) (w:World) :
 Calls Tryz.prog 139 #[.slice p 0 cap] w λ e w' =>e= .returned (.tuple #[])/\w' =w:=Any.slices_Sort_int_none Tryz.lays189 p cap w
end Go.Proofs

namespace Go.Proofs
open Go.Shelf Go.RowKit Go.Sort
open Go.Ab (zHS zPM zWT)
set_option maxHeartbeats 1000000
set_option maxRecDepth 100000
theorem Tryz.cc_fresh(b:Nat) (w:World) (h0:w.cell? ⟨b,0,none⟩=some (.pointer none)) (hsh:w.shape? b=some (153,2)) (hfz:w.frozen? ⟨b,0,none⟩=false) :
 Calls Tryz.prog 180 #[.pointer (some ⟨b,0,none⟩)] w λ e w' =>e= .returned (.tuple #[])/\w' =w.setCell ⟨b,0,none⟩ (.pointer (some ⟨b,0,none⟩)):=by
 obtain⟨j,hj,hjs⟩:=Option.map_eq_some_iff.1 Tryz.Builder_Extra_169.sizeBuilder
 have t72:=Tryz.underlying150
 have t111:=Tryz.underlying231
 have t75:=Tryz.underlying153
 go_enter Tryz.func180,Tryz.ntmps180
 go_wp2
 rw[Lib.run_to_unsafe w ⟨b,0,none⟩ t72 t111 hj (by rw[hjs];decide) hsh (Nat.zero_lt_succ 1)]
 simp only[Result.andThen]
 rw[Oper.upon_value]
 go_wp2
 rw[run_callFunc_extern Tryz.func219 (by kernel_rfl) (by kernel_rfl) (by kernel_rfl) (e:=Extern.AbiNoEscape.same) (by kernel_rfl)]
 rw[Lib.run_noEscape]
 simp only[Result.andThen]
 rw[Oper.upon_value]
 go_wp2
 rw[Lib.run_from_unsafe w ⟨b,0,none⟩ t111 t72 hj hsh Tryz.Builder_Extra_169.liesBuilder]
 simp only[Result.andThen]
 rw[Oper.upon_value]
 go_wp2
 go_end0
 exact⟨rfl,rfl⟩
theorem Tryz.cc_used(b:Nat) (w:World) (h0:w.cell? ⟨b,0,none⟩=some (.pointer (some ⟨b,0,none⟩))) :
 Calls Tryz.prog 180 #[.pointer (some ⟨b,0,none⟩)] w λ e w' =>e= .returned (.tuple #[])/\w' =w:=by
 have t72:=Tryz.underlying150
 have t75:=Tryz.underlying153
 obtain⟨j,hj,_⟩:=Option.map_eq_some_iff.1 Tryz.Builder_Extra_169.sizeBuilder
 go_enter Tryz.func180,Tryz.ntmps180
 go_wp2
 rw[Lib.run_neq_ptr_same w _ t72 hj]
 go_wp2
 go_end0
 exact⟨rfl,rfl⟩
theorem Tryz.cc(B b:Nat) (bs:List Value) (w:World) (h:Lib.IsBuilder 153 5 B b bs w) :
 Calls Tryz.prog 180 #[.pointer (some ⟨b,0,none⟩)] w λ e w' =>e= .returned (.tuple #[])/\Lib.BuilderAt 153 5 B b (.pointer (some ⟨b,0,none⟩)) bs w' /\Below B w w' :=by
 rcases h with h | h
 ·refine(Tryz.cc_fresh b w h.cell0 h.shape h.frozen0).mono ?_
  rintro e w' ⟨rfl,rfl⟩
  exact⟨rfl,h.used _,(Below.refl B w).setCell (p:=⟨b,0,none⟩) h.1 _⟩
 ·refine(Tryz.cc_used b w h.cell0).mono ?_
  rintro e w' ⟨rfl,rfl⟩
  exact⟨rfl,h,Below.refl B _⟩
theorem Tryz.ws(B b:Nat) (bs:List Value) (s:ByteArray) (w:World) (h:Lib.IsBuilder 153 5 B b bs w) (hlen:bs.length+s.size<=140737488355328) (hBw:B<=w.heap.size) :
 Calls Tryz.prog 121 #[.pointer (some ⟨b,0,none⟩),.string s] w λ e w' =>e= .returned (.tuple #[.int .i64 s.size,.nilIface])/\Lib.BuilderAt 153 5 B b (.pointer (some ⟨b,0,none⟩)) (bs++Lib.strCells s) w' /\Below B w w' :=by
 obtain⟨i0,hi,hz0,hz1,hz2⟩:=info_parts Tryz.Builder_Extra_169.infoByte
 have t72:=Tryz.underlying150
 have t75:=Tryz.underlying153
 go_enter Tryz.func121,Tryz.ntmps121
 go_wp2_with (go_at_call 180;refine(Tryz.cc B b bs _ h).mono ?_)
 rintro e w1 ⟨rfl,h1,hb1⟩
 obtain⟨hB,v,hbk,hown,hne⟩:=h1
 have c0:w1.cell? ⟨b,0,none⟩=some (.pointer (some ⟨b,0,none⟩)):=by rw[Lib.cell_of_heap hbk];rfl
 have c1:w1.cell? ⟨b,1,none⟩=some v:=by rw[Lib.cell_of_heap hbk];rfl
 go_wp2_with (at_builtin;refine Lib.wpList_append_own_string _ rfl _ _ 151 9 rfl B 5 i0 Tryz.underlying151 Tryz.underlying9 hi hz0 hz1 hz2 _ _ _ rfl hown s rfl ?c3 ?c4 ?c5 ?_)
 case c3=>unfold maxLen;omega
 case c4=>omega
 case c5=>have:=hb1.size;omega
 intro v' w2 hown' hgrow _
 have hlt:b<w1.heap.size:=by
  rcases Nat.lt_or_ge b w1.heap.size with h' | h'
  ·exact h'
  ·simp[Array.getElem?_eq_none h']at hbk
 have hb2:w2.heap[b]? =some (.cells #[.pointer (some ⟨b,0,none⟩),v] 153 (0,0)):=by
  rw[hgrow.block b hlt (λ e=>hne e.symm)];exact hbk
 have d0:w2.cell? ⟨b,0,none⟩=some (.pointer (some ⟨b,0,none⟩)):=by rw[Lib.cell_of_heap hb2];rfl
 have d1:w2.cell? ⟨b,1,none⟩=some v:=by rw[Lib.cell_of_heap hb2];rfl
 have f1:w2.frozen? ⟨b,1,none⟩=false:=Lib.frozen_of_heap hb2 1
 obtain⟨ao,n',cap,rfl⟩:∃ ao n' cap,v' = .slice ao n' cap:=by
  rcases hown'.2 with⟨hv,_⟩ | ⟨g,cap,cur,hv,_⟩
  ·exact⟨_,_,_,hv⟩
  ·exact⟨_,_,_,hv⟩
 go_wp2
 go_ret2
 refine⟨rfl,?_,?_⟩
 ·exact Lib.BuilderAt.put (T:=153) (e:=5) hB hb2 (bs' :=bs++Lib.strCells s) (by simpa [Lib.strCells_length]using hown') Tryz.Builder_Extra_169.neB5
 ·exact(hb1.grown hgrow (by have:=hb1.size;omega) (λ k hk=>(hown.lt k hk).1)).setCell (p:=⟨b,1,none⟩) hB _
structure Hid (p:Prop):Prop where
 out:p
theorem zPO(w:World) (k:Nat) (os:Array Obj):Below w.heap.size w (grow (w.drewN k) os) :=
 ⟨rfl,rfl,rfl,by simp[grow,World.drewN],λ b hb=>by
  show((w.drewN k).heap++os)[b]? =_
  rw[Array.getElem?_append_left (by simpa [World.drewN]using hb)]
  rfl⟩
theorem z4P{B n:Nat} {w w' :World} (h:Below B w w') (hn:n<=w.heap.size):n<=w'.heap.size:=Nat.le_trans hn h.size
theorem zTG:∀(xs:List (Int×Int)) (n:Nat),(∀ x∈xs,(-9223372036854775808<=x.1/\x.1<=9223372036854775807)/\ -9223372036854775808<=x.2/\x.2<=9223372036854775807)->xs.length<=n->(zHS xs).length<=44*n
 | [],n,_,_=>by simp[zHS]
 |x::r,n,h,hn=>by
  obtain⟨m,rfl⟩:∃ m,n=m+1:=⟨n-1,by simp at hn;omega⟩
  have h1:=h x (by simp)
  have k1:=Lib.itoa_length_le x.1 h1.1.1 h1.1.2
  have k2:=Lib.itoa_length_le x.2 h1.2.1 h1.2.2
  have ih:=zTG r m (λ y hy=>h y (by simp[hy])) (by simpa using hn)
  simp only[zHS,zAK,List.length_singleton]
  omega
theorem zUw{P:Program} {w W:World} {name:String} {k:IntKind} {zs:List Int} (h:Lib.TabIs P w name k zs) (hB:Below w.heap.size w W):Lib.TabIs P W name k zs:=by
 unfold Lib.TabIs World.var? at h ⊢
 cases hg:P.globalNamed name with
 |none=>rw[hg]at h;cases h
 |some g =>
  rw[hg]at h
  simp only[zB]at h ⊢
  have hlt:g<w.heap.size:=by
   rcases Nat.lt_or_ge g w.heap.size with h' | h'
   ·exact h'
   ·rw[Array.getElem?_eq_none h']at h;cases h
  rw[hB.block g hlt]
  exact h
theorem zZX{T e:TypeId} {B b:Nat} {bs:List Value} {w W:World} (h:Lib.IsBuilder T e B b bs w) (hB:Below w.heap.size w W):Lib.IsBuilder T e B b bs W:=by
 have one:∀ p,Lib.BuilderAt T e B b p bs w->Lib.BuilderAt T e B b p bs W:=λ p h=>by
  obtain⟨h1,v,h2,h3,h4⟩:=h
  have hlt:b<w.heap.size:=by
   rcases Nat.lt_or_ge b w.heap.size with h' | h'
   ·exact h'
   ·rw[Array.getElem?_eq_none h']at h2;cases h2
  exact⟨h1,v,(hB.block b hlt).trans h2,h3.kept (row:=none) ⟨hB.os,hB.tape,hB.output,hB.size,λ j hj _=>hB.block j hj⟩ (by cases hv:v.ownBlock<;>simp),h4⟩
 exact h.elim (λ h=> .inl (one _ h)) (λ h=> .inr (one _ h))
theorem Tryz.text(base:Option Addr) (cap:Nat) (xs:List (Int×Int)) (w:World) (hcap:xs.length<=cap) (hlen:xs.length<=1000000) (hr:∀ x∈xs,(-9223372036854775808<=x.1/\x.1<=9223372036854775807)/\ -9223372036854775808<=x.2/\x.2<=9223372036854775807)
 (hrow:zWT w base xs) (htab:Lib.TabIs Tryz.prog w "internal/strconv.uint64pow10" .u64 Lib.pow10Tab) :
 Calls Tryz.prog 53 #[.slice base xs.length cap] w λ e w' =>e= .returned (.string ⟨(zHS xs).toArray⟩)/\Below w.heap.size w w' :=by
 have t75:=Tryz.underlying153
 have t39:=Tryz.underlying46
 go_enter Tryz.func53,Tryz.ntmps53
 go_wp2_with fail
 go_loopw [8] (λ v8 wr=>∃ i:Nat,v8= .int .i64 i/\i<=xs.length/\Lib.IsBuilder 153 5 w.heap.size w.heap.size (Lib.byteCells (zHS (xs.take i))) wr/\Below w.heap.size w wr) (λ v8 wr=>match v8 with | .int _ n=>(xs.length-n).toNat | _=>0)
 case atStart =>
  refine⟨0,rfl,Nat.zero_le _,?_,?_⟩
  ·exact Lib.fresh_isBuilder 153 5 w
  ·exact(Below.refl w.heap.size w).alloc (zM _) _
 case round =>
  obtain⟨i,rfl,hi,hb,hB⟩:=hrel
  by_cases hlt:i<xs.length
  ·have hx:xs[i]? =some xs[i]:=zH hlt
   obtain⟨b,o,hbase,hc1,hc2⟩:=hrow i xs[i] hx
   have hrx:=hr xs[i] (zAC hlt)
   generalize xs[i]=x at hx hc1 hc2 hrx
   obtain⟨kk,nn⟩:=x
   subst hbase
   have hbl:b<w.heap.size:=Lib.lt_of_cell hc1
   have k1:wr.cell? ⟨b,o+i*2,none⟩=some (.int .i64 kk):=(hB.cell (p:=⟨b,o+i*2,none⟩) hbl).trans hc1
   have k2:wr.cell? ⟨b,o+i*2+1,none⟩=some (.int .i64 nn):=(hB.cell (p:=⟨b,o+i*2+1,none⟩) hbl).trans hc2
   have hd:decide ((i:Int)<(xs.length:Int))=true:=by simp;omega
   have hlw:=hB.size
   have tab:∀ W:World,Below w.heap.size w W->Lib.TabIs Tryz.prog W "internal/strconv.uint64pow10" .u64 Lib.pow10Tab:=λ W hW=>zUw htab hW
   go_wp2_with fail
   generalize hW0:wr.alloc (Obj.cells #[Value.int IntKind.i64 kk,Value.int IntKind.i64 nn] 46)=W0
   have hB0:Below wr.heap.size wr W0:=by rw[<- hW0];exact(Below.refl wr.heap.size wr).alloc (zM _) _
   have hsz0:W0.heap.size=wr.heap.size+1:=by rw[<- hW0];simp
   have q1:W0.cell? ⟨wr.heap.size,0,none⟩=some (.int .i64 kk):=by rw[<- hW0,Lib.cell_of_heap (heap_alloc_new wr _)];rfl
   have q2:W0.cell? ⟨wr.heap.size,1,none⟩=some (.int .i64 nn):=by rw[<- hW0,Lib.cell_of_heap (heap_alloc_new wr _)];rfl
   have HB0:=Hid.mk hB0
   have HB:=Hid.mk hB
   clear hW0 hB0 k1 k2 hc1 hc2
   have tab0:∀ W:World,Below W0.heap.size W0 W->Lib.TabIs Tryz.prog W "internal/strconv.uint64pow10" .u64 Lib.pow10Tab:=λ W hW=>tab W (HB.out.trans ((HB0.out.trans (hW.mono (by omega))).mono hlw))
   have hd0:Below W0.heap.size W0 W0.drew:=⟨rfl,rfl,rfl,zM _,λ _ _=>rfl⟩
   have HD0:=Hid.mk hd0
   have p1:W0.drew.cell? ⟨wr.heap.size,0,none⟩=some (.int .i64 kk):=q1
   have p2:W0.drew.cell? ⟨wr.heap.size,1,none⟩=some (.int .i64 nn):=q2
   clear hd0
   have hlen1:(zHS (xs.take i)).length<=44*i:=zTG _ _ (λ y hy=>hr y (List.mem_of_mem_take hy)) (by simp;omega)
   obtain⟨s1,hs1⟩:∃ s1:ByteArray,s1=⟨(Lib.itoa kk).toArray⟩:=⟨_,rfl⟩
   obtain⟨s2,hs2⟩:∃ s2:ByteArray,s2=⟨(Lib.itoa nn).toArray⟩:=⟨_,rfl⟩
   have z1:s1.size<=21:=by rw[hs1];exact Lib.itoa_length_le kk hrx.1.1 hrx.1.2
   have z2:s2.size<=21:=by rw[hs2];exact Lib.itoa_length_le nn hrx.2.1 hrx.2.2
   have c1:s1.size+1<=9223372036854775807:=by omega
   have c2:s1.size+1+s2.size<=9223372036854775807:=by omega
   have c3:s1.size+1+s2.size+1<=9223372036854775807:=by omega
   have it1:∀ W,Lib.TabIs Tryz.prog W "internal/strconv.uint64pow10" .u64 Lib.pow10Tab->Calls Tryz.prog 122 #[.int .i64 kk] W λ e w' =>e= .returned (.string s1)/\∃ k os,w' =grow (W.drewN k) os:=λ W h=>by rw[hs1];exact Tryz.strconv_Itoa kk hrx.1.1 hrx.1.2 W h
   have it2:∀ W,Lib.TabIs Tryz.prog W "internal/strconv.uint64pow10" .u64 Lib.pow10Tab->Calls Tryz.prog 122 #[.int .i64 nn] W λ e w' =>e= .returned (.string s2)/\∃ k os,w' =grow (W.drewN k) os:=λ W h=>by rw[hs2];exact Tryz.strconv_Itoa nn hrx.2.1 hrx.2.2 W h
   have HS:=Hid.mk (And.intro hs1 hs2)
   have IT1:=Hid.mk it1
   have IT2:=Hid.mk it2
   have key:∀ W2 W3:World,Below W0.heap.size W0 W2->Lib.BuilderAt 153 5 w.heap.size w.heap.size (.pointer (some ⟨w.heap.size,0,none⟩)) (Lib.byteCells (zHS (xs.take i))++Lib.strCells (s1++⟨#[58]⟩++s2++⟨#[59]⟩)) W3->Below w.heap.size W2 W3 ->
    Lib.IsBuilder 153 5 w.heap.size w.heap.size (Lib.byteCells (zHS (xs.take (i+1)))) W3/\Below w.heap.size w W3:=λ W2 W3 h2 h3 h4=>by
    refine⟨.inr ?_,(HB.out.trans ((HB0.out.trans (h2.mono (by omega))).mono hlw)).trans h4⟩
    have e:Lib.byteCells (zHS (xs.take i))++Lib.strCells (s1++⟨#[58]⟩++s2++⟨#[59]⟩)=Lib.byteCells (zHS (xs.take (i+1))):=by
     have ht:xs.take (i+1)=xs.take i++[(kk,nn)]:=by rw[List.take_add_one,hx];rfl
     rw[ht,zPM,Lib.byteCells_append,Lib.strCells_eq,hs1,hs2]
     congr 2
     simp[zHS,ByteArray.data_append]
    rw[<- e];exact h3
   have KEY:=Hid.mk key
   have wsLen:Hid (∀ u:Unit,(Lib.byteCells (zHS (xs.take i))).length+(s1++⟨#[58]⟩++s2++⟨#[59]⟩:ByteArray).size<=140737488355328):=⟨λ _=>by
    rw[Lib.byteCells_length];simp only[ByteArray.size_append]
    have e1:(⟨#[58]⟩:ByteArray).size=1:=rfl
    have e2:(⟨#[59]⟩:ByteArray).size=1:=rfl
    omega⟩
   clear hs1 hs2 it1 it2 key
   go_region_with (first
    |(go_at_call 122;first
     |(refine(IT1.out _ ?_).mono ?_;exact tab0 _ HD0.out;rintro e W1 ⟨rfl,hgr⟩;have HD1:=Hid.mk (show Below W0.heap.size W0 W1 from by obtain⟨n1,os1,rfl⟩:=hgr;exact HD0.out.trans ((zPO _ n1 os1).mono (zM _)));have qq2:=(HD1.out.cell (p:=⟨wr.heap.size,1,none⟩) (by simp;omega)).trans q2;clear hgr)
     |(refine(IT2.out _ ?_).mono ?_;exact tab0 _ HD1.out;rintro e W2 ⟨rfl,hgr⟩;have HD2:=Hid.mk (show Below W0.heap.size W0 W2 from by obtain⟨n1,os1,rfl⟩:=hgr;exact HD1.out.trans ((zPO _ n1 os1).mono HD1.out.size));clear hgr))
    |(go_at_call 121;refine(Tryz.ws w.heap.size w.heap.size (Lib.byteCells (zHS (xs.take i))) _ _ (zZX hb (HB0.out.trans (HD2.out.mono (by omega)))) (wsLen.out ()) (z4P HD2.out (by omega))).mono ?_;rintro e W3 ⟨rfl,hb3,hB3⟩))
   all_goals (obtain⟨g1,g2⟩:=KEY.out _ _ HD2.out hb3 hB3;have GB:=Hid.mk (And.intro g1 g2);clear g1 g2 hb3 hB3;go_wp2;go_roundw)
   all_goals first | exact⟨i+1,by simp,by omega,GB.out.1,GB.out.2⟩ | (simp;omega)
  ·have he:i=xs.length:=by omega
   subst he
   rw[List.take_length]at hb
   have hd:decide ((xs.length:Int)<(xs.length:Int))=false:=by simp
   have HB:=Hid.mk hB
   have HBB:=Hid.mk hb
   go_wp2_with (go_at_call 123;refine(Tryz.Builder_String_any w.heap.size w.heap.size (zHS xs) _ HBB.out HB.out.size).mono ?_)
   rintro e W3 ⟨rfl,hB3⟩
   have HB3:=Hid.mk hB3
   clear hB3
   go_wp2
   go_ret
   exact⟨rfl,HB.out.trans HB3.out⟩
end Go.Proofs
