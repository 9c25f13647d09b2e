/- Part 13 of the proof: an abstract machine that runs the program's code over plain values, its soundness, and what the functions tell of plain values. Conditions: those in each theorem. -/
import Derived.Test.YtgebkpchpliahaaGreatDoorA11
import Derived.WalkKit
import Derived.Deep.RegionWith
import Derived.Laws.Externs
import Derived.Deep.LoopGhost
import Derived.Lib.AtoiErrMem
import Derived.Lib.ItoaLen
import Derived.Tactics
import Derived.Tactics2
import Derived.Defers
import Derived.Recover
import Derived.Test.YtgebkpchpliahaaGreatDoorProg
set_option linter.unusedSectionVars false
namespace Go.Proofs
open Go.Shelf Go.RowKit Go.Sort
open Go.Ab (zEM zKc zQA)
set_option linter.unusedVariables false
set_option maxHeartbeats 1000000
set_option maxRecDepth 100000
theorem Tryz.cc_fresh (b : Nat) (w : World) (h0 : w.cell? ⟨b, 0, none⟩ = some (.pointer none)) (hsh : w.shape? b = some (153, 2)) (hfz : w.frozen? ⟨b, 0, none⟩ = false) :
 Calls Tryz.prog 180 #[.pointer (some ⟨b, 0, none⟩)] w fun e w' => e = .returned (.tuple #[]) ∧ w' = w.setCell ⟨b, 0, none⟩ (.pointer (some ⟨b, 0, none⟩)) := by
 obtain ⟨j, hj, hjs⟩ := Option.map_eq_some_iff.1 Tryz.Builder_Extra_169.sizeBuilder
 have t72 := Tryz.underlying150
 have t111 := Tryz.underlying231
 have t75 := Tryz.underlying153
 go_enter Tryz.func180, Tryz.ntmps180
 go_wp2
 rw [Lib.run_to_unsafe w ⟨b, 0, none⟩ t72 t111 hj (by rw [hjs]; decide) hsh (Nat.zero_lt_succ 1)]
 simp only [Result.andThen]
 rw [Oper.upon_value]
 go_wp2
 rw [run_callFunc_extern Tryz.func219 (by kernel_rfl) (by kernel_rfl) (by kernel_rfl) (e := Extern.AbiNoEscape.same) (by kernel_rfl)]
 rw [Lib.run_noEscape]
 simp only [Result.andThen]
 rw [Oper.upon_value]
 go_wp2
 rw [Lib.run_from_unsafe w ⟨b, 0, none⟩ t111 t72 hj hsh Tryz.Builder_Extra_169.liesBuilder]
 simp only [Result.andThen]
 rw [Oper.upon_value]
 go_wp2
 go_end0
 exact ⟨rfl, rfl⟩
theorem Tryz.cc_used (b : Nat) (w : World) (h0 : w.cell? ⟨b, 0, none⟩ = some (.pointer (some ⟨b, 0, none⟩))) :
 Calls Tryz.prog 180 #[.pointer (some ⟨b, 0, none⟩)] w fun e w' => e = .returned (.tuple #[]) ∧ w' = w := by
 have t72 := Tryz.underlying150
 have t75 := Tryz.underlying153
 obtain ⟨j, hj, _⟩ := Option.map_eq_some_iff.1 Tryz.Builder_Extra_169.sizeBuilder
 go_enter Tryz.func180, Tryz.ntmps180
 go_wp2
 rw [Lib.run_neq_ptr_same w _ t72 hj]
 go_wp2
 go_end0
 exact ⟨rfl, rfl⟩
theorem Tryz.cc (B b : Nat) (bs : List Value) (w : World) (h : Lib.IsBuilder 153 5 B b bs w) :
 Calls Tryz.prog 180 #[.pointer (some ⟨b, 0, none⟩)] w fun e w' => e = .returned (.tuple #[]) ∧ Lib.BuilderAt 153 5 B b (.pointer (some ⟨b, 0, none⟩)) bs w' ∧ Below B w w' := by
 rcases h with h | h
 ·refine (Tryz.cc_fresh b w h.cell0 h.shape h.frozen0).mono ?_
  rintro e w' ⟨rfl, rfl⟩
  exact ⟨rfl, h.used _, (Below.refl B w).setCell (p := ⟨b, 0, none⟩) h.1 _⟩
 ·refine (Tryz.cc_used b w h.cell0).mono ?_
  rintro e w' ⟨rfl, rfl⟩
  exact ⟨rfl, h, Below.refl B _⟩
theorem Tryz.ws (B b : Nat) (bs : List Value) (s : ByteArray) (w : World) (h : Lib.IsBuilder 153 5 B b bs w) (hlen : bs.length + s.size ≤ 140737488355328) (hBw : B ≤ w.heap.size) :
 Calls Tryz.prog 121 #[.pointer (some ⟨b, 0, none⟩), .string s] w fun e w' => e = .returned (.tuple #[.int .i64 s.size, .nilIface]) ∧ Lib.BuilderAt 153 5 B b (.pointer (some ⟨b, 0, none⟩)) (bs ++ Lib.strCells s) w' ∧ Below B w w' := by
 obtain ⟨i0, hi, hz0, hz1, hz2⟩ := info_parts Tryz.Builder_Extra_169.infoByte
 have t72 := Tryz.underlying150
 have t75 := Tryz.underlying153
 go_enter Tryz.func121, Tryz.ntmps121
 go_wp2_with (go_at_call 180; refine (Tryz.cc B b bs _ h).mono ?_)
 rintro e w1 ⟨rfl, h1, hb1⟩
 obtain ⟨hB, v, hbk, hown, hne⟩ := h1
 have c0 : w1.cell? ⟨b, 0, none⟩ = some (.pointer (some ⟨b, 0, none⟩)) := by rw [Lib.cell_of_heap hbk]; rfl
 have c1 : w1.cell? ⟨b, 1, none⟩ = some v := by rw [Lib.cell_of_heap hbk]; rfl
 go_wp2_with (at_builtin; refine Lib.wpList_append_own_string _ rfl _ _ 151 9 rfl B 5 i0 Tryz.underlying151 Tryz.underlying9 hi hz0 hz1 hz2 _ _ _ rfl hown s rfl ?c3 ?c4 ?c5 ?_)
 case c3 => unfold maxLen; omega
 case c4 => omega
 case c5 => have := hb1.size; omega
 intro v' w2 hown' hgrow _
 have hlt : b < w1.heap.size := by
  rcases Nat.lt_or_ge b w1.heap.size with h' | h'
  ·exact h'
  ·simp [Array.getElem?_eq_none h'] at hbk
 have hb2 : w2.heap[b]? = some (.cells #[.pointer (some ⟨b, 0, none⟩), v] 153 (0, 0)) := by
  rw [hgrow.block b hlt (fun e => hne e.symm)]; exact hbk
 have d0 : w2.cell? ⟨b, 0, none⟩ = some (.pointer (some ⟨b, 0, none⟩)) := by rw [Lib.cell_of_heap hb2]; rfl
 have d1 : w2.cell? ⟨b, 1, none⟩ = some v := by rw [Lib.cell_of_heap hb2]; rfl
 have f1 : w2.frozen? ⟨b, 1, none⟩ = false := Lib.frozen_of_heap hb2 1
 obtain ⟨ao, n', cap, rfl⟩ : ∃ ao n' cap, v' = .slice ao n' cap := by
  rcases hown'.2 with ⟨hv, _⟩ | ⟨g, cap, cur, hv, _⟩
  ·exact ⟨_, _, _, hv⟩
  ·exact ⟨_, _, _, hv⟩
 go_wp2
 go_ret2
 refine ⟨rfl, ?_, ?_⟩
 ·exact Lib.BuilderAt.put (T := 153) (e := 5) hB hb2 (bs' := bs ++ Lib.strCells s) (by simpa [Lib.strCells_length] using hown') Tryz.Builder_Extra_169.neB5
 ·exact (hb1.grown hgrow (by have := hb1.size; omega) (fun k hk => (hown.lt k hk).1)).setCell (p := ⟨b, 1, none⟩) hB _
structure Hid (p : Prop) : Prop where
 out : p
theorem zKe (w : World) (k : Nat) (os : Array Obj) : Below w.heap.size w (grow (w.drewN k) os) :=
 ⟨rfl, rfl, rfl, by simp [grow, World.drewN], fun b hb => by
  show ((w.drewN k).heap ++ os)[b]? = _
  rw [Array.getElem?_append_left (by simpa [World.drewN] using hb)]
  rfl⟩
theorem zWu {B n : Nat} {w w' : World} (h : Below B w w') (hn : n ≤ w.heap.size) : n ≤ w'.heap.size := Nat.le_trans hn h.size
theorem zN5 : ∀ (xs : List (Int × Int)) (n : Nat), (∀ x ∈ xs, (-9223372036854775808 ≤ x.1 ∧ x.1 ≤ 9223372036854775807) ∧ -9223372036854775808 ≤ x.2 ∧ x.2 ≤ 9223372036854775807) → xs.length ≤ n → (zEM xs).length ≤ 44 * n
 | [], n, _, _ => by simp [zEM]
 | x :: r, n, h, hn => by
  obtain ⟨m, rfl⟩ : ∃ m, n = m + 1 := ⟨n - 1, by simp at hn; omega⟩
  have h1 := h x (by simp)
  have k1 := Lib.itoa_length_le x.1 h1.1.1 h1.1.2
  have k2 := Lib.itoa_length_le x.2 h1.2.1 h1.2.2
  have ih := zN5 r m (fun y hy => h y (by simp [hy])) (by simpa using hn)
  simp only [zEM, List.length_append, List.length_singleton]
  omega
theorem zOt {P : Program} {w W : World} {name : String} {k : IntKind} {zs : List Int} (h : Lib.TabIs P w name k zs) (hB : Below w.heap.size w W) : Lib.TabIs P W name k zs := by
 unfold Lib.TabIs World.var? at h ⊢
 cases hg : P.globalNamed name with
 | none => rw [hg] at h; cases h
 | some g =>
  rw [hg] at h
  simp only [Option.bind_some] at h ⊢
  have hlt : g < w.heap.size := by
   rcases Nat.lt_or_ge g w.heap.size with h' | h'
   ·exact h'
   ·rw [Array.getElem?_eq_none h'] at h; cases h
  rw [hB.block g hlt]
  exact h
theorem zSn {T e : TypeId} {B b : Nat} {bs : List Value} {w W : World} (h : Lib.IsBuilder T e B b bs w) (hB : Below w.heap.size w W) : Lib.IsBuilder T e B b bs W := by
 have one : ∀ p, Lib.BuilderAt T e B b p bs w → Lib.BuilderAt T e B b p bs W := fun p h => by
  obtain ⟨h1, v, h2, h3, h4⟩ := h
  have hlt : b < w.heap.size := by
   rcases Nat.lt_or_ge b w.heap.size with h' | h'
   ·exact h'
   ·rw [Array.getElem?_eq_none h'] at h2; cases h2
  exact ⟨h1, v, (hB.block b hlt).trans h2, h3.kept (row := none) ⟨hB.os, hB.tape, hB.output, hB.size, fun j hj _ => hB.block j hj⟩ (by cases hv : v.ownBlock <;> simp), h4⟩
 exact h.elim (fun h => .inl (one _ h)) (fun h => .inr (one _ h))
theorem Tryz.text (base : Option Addr) (cap : Nat) (xs : List (Int × Int)) (w : World) (hcap : xs.length ≤ cap) (hlen : xs.length ≤ 1000000) (hr : ∀ x ∈ xs, (-9223372036854775808 ≤ x.1 ∧ x.1 ≤ 9223372036854775807) ∧ -9223372036854775808 ≤ x.2 ∧ x.2 ≤ 9223372036854775807)
 (hrow : zQA w base xs) (htab : Lib.TabIs Tryz.prog w "internal/strconv.uint64pow10" .u64 Lib.pow10Tab) :
 Calls Tryz.prog 53 #[.slice base xs.length cap] w fun e w' => e = .returned (.string ⟨(zEM xs).toArray⟩) ∧ Below w.heap.size w w' := by
 have t75 := Tryz.underlying153
 have t39 := Tryz.underlying46
 go_enter Tryz.func53, Tryz.ntmps53
 go_wp2_with fail
 go_loopw [8] (fun v8 wr => ∃ i : Nat, v8 = .int .i64 i ∧ i ≤ xs.length ∧ Lib.IsBuilder 153 5 w.heap.size w.heap.size (Lib.byteCells (zEM (xs.take i))) wr ∧ Below w.heap.size w wr) (fun v8 wr => match v8 with | .int _ n => (xs.length - n).toNat | _ => 0)
 case atStart =>
  refine ⟨0, rfl, Nat.zero_le _, ?_, ?_⟩
  ·exact Lib.fresh_isBuilder 153 5 w
  ·exact (Below.refl w.heap.size w).alloc (Nat.le_refl _) _
 case round =>
  obtain ⟨i, rfl, hi, hb, hB⟩ := hrel
  by_cases hlt : i < xs.length
  ·have hx : xs[i]? = some xs[i] := List.getElem?_eq_getElem hlt
   obtain ⟨b, o, hbase, hc1, hc2⟩ := hrow i xs[i] hx
   have hrx := hr xs[i] (List.getElem_mem hlt)
   generalize xs[i] = x at hx hc1 hc2 hrx
   obtain ⟨kk, nn⟩ := x
   subst hbase
   have hbl : b < w.heap.size := Lib.lt_of_cell hc1
   have k1 : wr.cell? ⟨b, o + i * 2, none⟩ = some (.int .i64 kk) := (hB.cell (p := ⟨b, o + i * 2, none⟩) hbl).trans hc1
   have k2 : wr.cell? ⟨b, o + i * 2 + 1, none⟩ = some (.int .i64 nn) := (hB.cell (p := ⟨b, o + i * 2 + 1, none⟩) hbl).trans hc2
   have hd : decide ((i : Int) < (xs.length : Int)) = true := by simp; omega
   have hlw := hB.size
   have tab : ∀ W : World, Below w.heap.size w W → Lib.TabIs Tryz.prog W "internal/strconv.uint64pow10" .u64 Lib.pow10Tab := fun W hW => zOt htab hW
   go_wp2_with fail
   generalize hW0 : wr.alloc (Obj.cells #[Value.int IntKind.i64 kk, Value.int IntKind.i64 nn] 46) = W0
   have hB0 : Below wr.heap.size wr W0 := by rw [← hW0]; exact (Below.refl wr.heap.size wr).alloc (Nat.le_refl _) _
   have hsz0 : W0.heap.size = wr.heap.size + 1 := by rw [← hW0]; simp
   have q1 : W0.cell? ⟨wr.heap.size, 0, none⟩ = some (.int .i64 kk) := by rw [← hW0, Lib.cell_of_heap (heap_alloc_new wr _)]; rfl
   have q2 : W0.cell? ⟨wr.heap.size, 1, none⟩ = some (.int .i64 nn) := by rw [← hW0, Lib.cell_of_heap (heap_alloc_new wr _)]; rfl
   have HB0 := Hid.mk hB0
   have HB := Hid.mk hB
   clear hW0 hB0 k1 k2 hc1 hc2
   have tab0 : ∀ W : World, Below W0.heap.size W0 W → Lib.TabIs Tryz.prog W "internal/strconv.uint64pow10" .u64 Lib.pow10Tab := fun W hW => tab W (HB.out.trans ((HB0.out.trans (hW.mono (by omega))).mono hlw))
   have hd0 : Below W0.heap.size W0 W0.drew := ⟨rfl, rfl, rfl, Nat.le_refl _, fun _ _ => rfl⟩
   have HD0 := Hid.mk hd0
   have p1 : W0.drew.cell? ⟨wr.heap.size, 0, none⟩ = some (.int .i64 kk) := q1
   have p2 : W0.drew.cell? ⟨wr.heap.size, 1, none⟩ = some (.int .i64 nn) := q2
   clear hd0
   have hlen1 : (zEM (xs.take i)).length ≤ 44 * i := zN5 _ _ (fun y hy => hr y (List.mem_of_mem_take hy)) (by simp; omega)
   obtain ⟨s1, hs1⟩ : ∃ s1 : ByteArray, s1 = ⟨(Lib.itoa kk).toArray⟩ := ⟨_, rfl⟩
   obtain ⟨s2, hs2⟩ : ∃ s2 : ByteArray, s2 = ⟨(Lib.itoa nn).toArray⟩ := ⟨_, rfl⟩
   have z1 : s1.size ≤ 21 := by rw [hs1]; exact Lib.itoa_length_le kk hrx.1.1 hrx.1.2
   have z2 : s2.size ≤ 21 := by rw [hs2]; exact Lib.itoa_length_le nn hrx.2.1 hrx.2.2
   have c1 : s1.size + 1 ≤ 9223372036854775807 := by omega
   have c2 : s1.size + 1 + s2.size ≤ 9223372036854775807 := by omega
   have c3 : s1.size + 1 + s2.size + 1 ≤ 9223372036854775807 := by omega
   have it1 : ∀ W, Lib.TabIs Tryz.prog W "internal/strconv.uint64pow10" .u64 Lib.pow10Tab → Calls Tryz.prog 122 #[.int .i64 kk] W fun e w' => e = .returned (.string s1) ∧ ∃ k os, w' = grow (W.drewN k) os := fun W h => by rw [hs1]; exact Tryz.strconv_Itoa kk hrx.1.1 hrx.1.2 W h
   have it2 : ∀ W, Lib.TabIs Tryz.prog W "internal/strconv.uint64pow10" .u64 Lib.pow10Tab → Calls Tryz.prog 122 #[.int .i64 nn] W fun e w' => e = .returned (.string s2) ∧ ∃ k os, w' = grow (W.drewN k) os := fun W h => by rw [hs2]; exact Tryz.strconv_Itoa nn hrx.2.1 hrx.2.2 W h
   have HS := Hid.mk (And.intro hs1 hs2)
   have IT1 := Hid.mk it1
   have IT2 := Hid.mk it2
   have key : ∀ W2 W3 : World, Below W0.heap.size W0 W2 → Lib.BuilderAt 153 5 w.heap.size w.heap.size (.pointer (some ⟨w.heap.size, 0, none⟩)) (Lib.byteCells (zEM (xs.take i)) ++ Lib.strCells (s1 ++ ⟨#[58]⟩ ++ s2 ++ ⟨#[59]⟩)) W3 → Below w.heap.size W2 W3 →
    Lib.IsBuilder 153 5 w.heap.size w.heap.size (Lib.byteCells (zEM (xs.take (i + 1)))) W3 ∧ Below w.heap.size w W3 := fun W2 W3 h2 h3 h4 => by
    refine ⟨.inr ?_, (HB.out.trans ((HB0.out.trans (h2.mono (by omega))).mono hlw)).trans h4⟩
    have e : Lib.byteCells (zEM (xs.take i)) ++ Lib.strCells (s1 ++ ⟨#[58]⟩ ++ s2 ++ ⟨#[59]⟩) = Lib.byteCells (zEM (xs.take (i + 1))) := by
     have ht : xs.take (i + 1) = xs.take i ++ [(kk, nn)] := by rw [List.take_add_one, hx]; rfl
     rw [ht, zKc, Lib.byteCells_append, Lib.strCells_eq, hs1, hs2]
     congr 2
     simp [zEM, ByteArray.data_append]
    rw [← e]; exact h3
   have KEY := Hid.mk key
   have wsLen : Hid (∀ u : Unit, (Lib.byteCells (zEM (xs.take i))).length + (s1 ++ ⟨#[58]⟩ ++ s2 ++ ⟨#[59]⟩ : ByteArray).size ≤ 140737488355328) := ⟨fun _ => by
    rw [Lib.byteCells_length]; simp only [ByteArray.size_append]
    have e1 : (⟨#[58]⟩ : ByteArray).size = 1 := rfl
    have e2 : (⟨#[59]⟩ : ByteArray).size = 1 := rfl
    omega⟩
   clear hs1 hs2 it1 it2 key
   go_region_with (first
    | (go_at_call 122; first
     | (refine (IT1.out _ ?_).mono ?_; exact tab0 _ HD0.out; rintro e W1 ⟨rfl, hgr⟩; have HD1 := Hid.mk (show Below W0.heap.size W0 W1 from by obtain ⟨n1, os1, rfl⟩ := hgr; exact HD0.out.trans ((zKe _ n1 os1).mono (Nat.le_refl _))); have qq2 := (HD1.out.cell (p := ⟨wr.heap.size, 1, none⟩) (by simp; omega)).trans q2; clear hgr)
     | (refine (IT2.out _ ?_).mono ?_; exact tab0 _ HD1.out; rintro e W2 ⟨rfl, hgr⟩; have HD2 := Hid.mk (show Below W0.heap.size W0 W2 from by obtain ⟨n1, os1, rfl⟩ := hgr; exact HD1.out.trans ((zKe _ n1 os1).mono HD1.out.size)); clear hgr))
    | (go_at_call 121; refine (Tryz.ws w.heap.size w.heap.size (Lib.byteCells (zEM (xs.take i))) _ _ (zSn hb (HB0.out.trans (HD2.out.mono (by omega)))) (wsLen.out ()) (zWu HD2.out (by omega))).mono ?_; rintro e W3 ⟨rfl, hb3, hB3⟩))
   all_goals (obtain ⟨g1, g2⟩ := KEY.out _ _ HD2.out hb3 hB3; have GB := Hid.mk (And.intro g1 g2); clear g1 g2 hb3 hB3; go_wp2; go_roundw)
   all_goals first | exact ⟨i + 1, by simp, by omega, GB.out.1, GB.out.2⟩ | (simp; omega)
  ·have he : i = xs.length := by omega
   subst he
   rw [List.take_length] at hb
   have hd : decide ((xs.length : Int) < (xs.length : Int)) = false := by simp
   have HB := Hid.mk hB
   have HBB := Hid.mk hb
   go_wp2_with (go_at_call 123; refine (Tryz.Builder_String_any w.heap.size w.heap.size (zEM xs) _ HBB.out HB.out.size).mono ?_)
   rintro e W3 ⟨rfl, hB3⟩
   have HB3 := Hid.mk hB3
   clear hB3
   go_wp2
   go_ret
   exact ⟨rfl, HB.out.trans HB3.out⟩
end Go.Proofs

namespace Go.Proofs
open Go.RowKit
set_option linter.unusedVariables false
set_option maxHeartbeats 1000000
set_option maxRecDepth 100000
theorem Tryz.cellSet (w : World) (b o : Nat) (cs : Array Value) (t : TypeId) (v : Value) (h : w.heap[b]? = some (.cells cs t)) : w.setCell ⟨b, o, none⟩ v = { w with heap := w.heap.setIfInBounds b (.cells (cs.setIfInBounds o v) t) } := by
 unfold World.setCell
 congr 1
 apply Array.ext_getElem?
 intro k
 rw [Array.getElem?_modify]
 by_cases e : b = k
 ·subst e
  have hlt := (Array.getElem?_eq_some_iff.1 h).1
  rw [if_pos rfl, h, Array.getElem?_setIfInBounds_self_of_lt hlt]; rfl
 ·rw [if_neg e, Array.getElem?_setIfInBounds_ne e]
theorem Tryz.told_idle (p q : Addr) (w : World) :
 CallsD Tryz.prog 127 #[.pointer (some p), .pointer (some q)] .returning w fun e u' w' => e = .returned (.tuple #[]) ∧ u' = .returning ∧ w' = w := by
 refine callsD_of_wpS Tryz.func127 rfl fun c₀ cs hu => ?_
 apply wpS_seq
 apply wpS_region
 simp [wpOpsS, go_sem, recoverD, hu, Tryz.ntmps127, Exit.thenS]
 refine wpS_of_wp ?_
 go_wp2
 cases c₀; simp_all [bodyPostS, results, Tryz.results127]
theorem Tryz.told_run (g : FuncId) (fs cs : Array Value) (w : World) (Q : Value → Value → World → Prop)
 (eg : ∀ w' args, (callFunc g args).run Tryz.prog w' = .ok (.enter g args) w')
 (hc : Calls Tryz.prog g (fs ++ cs) ((w.alloc (.cells #[.slice none 0 0, .slice none 0 0] 40)).alloc (.cells #[.bool false] 4)) (fun e w3 => ∃ x y, e = .returned (.agg #[x, y]) ∧ x.oneCell' = true ∧ y.oneCell' = true ∧
  w3.heap[w.heap.size]? = some (.cells #[.slice none 0 0, .slice none 0 0] 40) ∧ w3.heap[w.heap.size + 1]? = some (.cells #[.bool false] 4) ∧ Q x y w3)) :
 Calls Tryz.prog 61 #[.func (.func g) fs cs] w fun e w' => ∃ x y w3, e = .returned (.tuple #[.agg #[x, y], .bool true]) ∧ Q x y w3 ∧ w3.heap[w.heap.size]? = some (.cells #[.slice none 0 0, .slice none 0 0] 40) ∧ w3.heap[w.heap.size + 1]? = some (.cells #[.bool false] 4) ∧
  w' = { w3 with heap := (w3.heap.setIfInBounds w.heap.size (.cells #[x, y] 40)).setIfInBounds (w.heap.size + 1) (.cells #[.bool true] 4) } := by
 have hmf : ∀ (fn : Fn) (first cap : Array Value) (w : World), (Instr.makeFunc fn first cap).run Tryz.prog w = .ok (.func fn first cap) w := fun _ _ _ _ => rfl
 go_enter_defers Tryz.func61, Tryz.ntmps61
 go_wp2
 refine hc.mono ?_
 rintro e w3 ⟨x, y, rfl, ox, oy, h1, h2, hq⟩
 have c0 : w3.cell? ⟨w.heap.size, 0, none⟩ = some (.slice none 0 0) := by unfold World.cell?; simp only [h1]; rfl
 have c1 : w3.cell? ⟨w.heap.size, 1, none⟩ = some (.slice none 0 0) := by unfold World.cell?; simp only [h1]; rfl
 have c2 : w3.cell? ⟨w.heap.size + 1, 0, none⟩ = some (.bool false) := by unfold World.cell?; simp only [h2]; rfl
 have f0 : w3.frozen? ⟨w.heap.size, 0, none⟩ = false := by unfold World.frozen?; simp only [h1]; rfl
 have f1 : w3.frozen? ⟨w.heap.size, 1, none⟩ = false := by unfold World.frozen?; simp only [h1]; rfl
 have f2 : w3.frozen? ⟨w.heap.size + 1, 0, none⟩ = false := by unfold World.frozen?; simp only [h2]; rfl
 clear hc
 have sx : ∀ (w : World) (a : Addr) (m : Mode), (store a x m).run Tryz.prog w = stored Tryz.prog w a x m := fun w a m => run_store _ w a x m ox
 have sy : ∀ (w : World) (a : Addr) (m : Mode), (store a y m).run Tryz.prog w = stored Tryz.prog w a y m := fun w a m => run_store _ w a y m oy
 have hlt : w.heap.size < w3.heap.size := (Array.getElem?_eq_some_iff.1 h1).1
 have hlt2 : w.heap.size + 1 < w3.heap.size := (Array.getElem?_eq_some_iff.1 h2).1
 have hW : ((w3.setCell ⟨w.heap.size, 0, none⟩ x).setCell ⟨w.heap.size, 1, none⟩ y).setCell ⟨w.heap.size + 1, 0, none⟩ (.bool true) = { w3 with heap := (w3.heap.setIfInBounds w.heap.size (.cells #[x, y] 40)).setIfInBounds (w.heap.size + 1) (.cells #[.bool true] 4) } := by
  rw [Tryz.cellSet _ _ _ _ _ _ h1]
  rw [Tryz.cellSet _ w.heap.size 1 #[x, .slice none 0 0] 40 y (by simp [hlt])]
  rw [Tryz.cellSet _ (w.heap.size + 1) 0 #[.bool false] 4 (.bool true) (by
   show ((w3.heap.setIfInBounds w.heap.size _).setIfInBounds w.heap.size _)[w.heap.size + 1]? = _
   rw [Array.getElem?_setIfInBounds_ne (by omega), Array.getElem?_setIfInBounds_ne (by omega)]; exact h2)]
  congr 1
  simp
 go_wp2
 refine leaves_cons (f := 127) (args := #[.pointer (some ⟨w.heap.size, 0, none⟩), .pointer (some ⟨w.heap.size + 1, 0, none⟩)]) (by simp) (by simp [go_sem]) ?_
 refine (Tryz.told_idle _ _ _).mono ?_
 rintro e u' w'' ⟨rfl, rfl, rfl⟩
 have e0 : World.cell? { w3 with heap := (w3.heap.setIfInBounds w.heap.size (.cells #[x, y] 40)).setIfInBounds (w.heap.size + 1) (.cells #[.bool true] 4) } ⟨w.heap.size, 0, none⟩ = some x := by
  unfold World.cell?
  simp [hlt]
 have e1 : World.cell? { w3 with heap := (w3.heap.setIfInBounds w.heap.size (.cells #[x, y] 40)).setIfInBounds (w.heap.size + 1) (.cells #[.bool true] 4) } ⟨w.heap.size, 1, none⟩ = some y := by
  unfold World.cell?
  simp [hlt]
 have e2 : World.cell? { w3 with heap := (w3.heap.setIfInBounds w.heap.size (.cells #[x, y] 40)).setIfInBounds (w.heap.size + 1) (.cells #[.bool true] 4) } ⟨w.heap.size + 1, 0, none⟩ = some (.bool true) := by
  unfold World.cell?
  simp [hlt2]
 generalize hG : ({ w3 with heap := (w3.heap.setIfInBounds w.heap.size (.cells #[x, y] 40)).setIfInBounds (w.heap.size + 1) (.cells #[.bool true] 4) } : World) = W5 at e0 e1 e2 ⊢
 simp [Leaves, settle, results, Tryz.results61, go_sem, e0, e1, e2]
 exact ⟨x, y, ⟨rfl, rfl⟩, w3, hq, h1, h2, hG.symm⟩
theorem Tryz.toldC : Go.Ab.ToldC Tryz.prog [62, 81] 61 40 4 (.slice none 0 0) (.slice none 0 0) :=
 ⟨⟨Tryz.f61, Tryz.func61, by kernel_rfl, by kernel_rfl⟩, fun g hg => by
   simp only [List.mem_cons, List.not_mem_nil, or_false] at hg
   rcases hg with rfl | rfl
   ·exact ⟨Tryz.f62, Tryz.func62, by kernel_rfl, by kernel_rfl⟩
   ·exact ⟨Tryz.f81, Tryz.func81, by kernel_rfl, by kernel_rfl⟩, fun g fs cs w Q eg hc => Tryz.told_run g fs cs w Q eg hc⟩
end Go.Proofs

namespace Go.Cf
open Go Go.Ab Go.Proofs
set_option maxRecDepth 100000
def ty : List TyI := [⟨.other, 1, 0, []⟩,
 ⟨.scalar, 1, 8, [.pv .nilfn]⟩,
 ⟨(.int .i64), 1, 8, [.pv (.int .i64 0)]⟩,
 ⟨(.int .i64), 1, 8, [.pv (.int .i64 0)]⟩,
 ⟨.bool, 1, 1, [.pv (.bool false)]⟩,
 ⟨(.int .u8), 1, 1, [.pv (.int .u8 0)]⟩,
 ⟨(.int .u8), 1, 1, [.pv (.int .u8 0)]⟩,
 ⟨(.struct [(2, 0), (3, 1), (4, 2), (6, 3)]), 4, 24, [.pv (.int .i64 0), .pv (.int .i64 0), .pv (.bool false), .pv (.int .u8 0)]⟩,
 ⟨(.struct [(2, 0), (3, 1), (4, 2), (6, 3)]), 4, 24, [.pv (.int .i64 0), .pv (.int .i64 0), .pv (.bool false), .pv (.int .u8 0)]⟩,
 ⟨.str, 1, 16, [.pv (.str ⟨#[]⟩)]⟩,
 ⟨.str, 1, 16, [.pv (.str ⟨#[]⟩)]⟩,
 ⟨.str, 1, 16, [.pv (.str ⟨#[]⟩)]⟩,
 ⟨(.int .u64), 1, 8, [.pv (.int .u64 0)]⟩,
 ⟨.other, 2, 24, []⟩,
 ⟨.other, 2, 24, []⟩,
 ⟨.scalar, 1, 8, [.pv (.con (.pointer none))]⟩,
 ⟨.scalar, 1, 8, [.pv (.con (.pointer none))]⟩,
 ⟨.scalar, 1, 8, [.pv (.con (.pointer none))]⟩,
 ⟨.other, 1, 8, []⟩,
 ⟨.other, 1, 8, []⟩,
 ⟨.scalar, 1, 16, [.pv (.con .nilIface)]⟩,
 ⟨(.int .i32), 1, 4, [.pv (.int .i32 0)]⟩,
 ⟨(.slice 141), 1, 24, [.nil 3]⟩,
 ⟨(.struct [(22, 0)]), 1, 24, [.nil 3]⟩,
 ⟨(.struct [(22, 0)]), 1, 24, [.nil 3]⟩,
 ⟨(.slice 38), 1, 24, [.nil 0]⟩,
 ⟨(.struct [(25, 0)]), 1, 24, [.nil 0]⟩,
 ⟨(.struct [(25, 0)]), 1, 24, [.nil 0]⟩,
 ⟨(.slice 3), 1, 24, [.nil 0]⟩,
 ⟨(.slice 48), 1, 24, [.nil 6]⟩,
 ⟨(.struct [(28, 0), (29, 1), (3, 2), (28, 3), (28, 4), (3, 5)]), 6, 112, [.nil 0, .nil 6, .pv (.int .i64 0), .nil 0, .nil 0, .pv (.int .i64 0)]⟩,
 ⟨(.struct [(28, 0), (29, 1), (3, 2), (28, 3), (28, 4), (3, 5)]), 6, 112, [.nil 0, .nil 6, .pv (.int .i64 0), .nil 0, .nil 0, .pv (.int .i64 0)]⟩,
 ⟨(.arr 2 3), 2, 16, [.pv (.int .i64 0), .pv (.int .i64 0)]⟩,
 ⟨(.slice 35), 1, 24, [.nil 6]⟩,
 ⟨(.struct [(3, 0), (3, 1), (32, 2), (33, 4)]), 5, 56, [.pv (.int .i64 0), .pv (.int .i64 0), .pv (.int .i64 0), .pv (.int .i64 0), .nil 6]⟩,
 ⟨(.struct [(3, 0), (3, 1), (32, 2), (33, 4)]), 5, 56, [.pv (.int .i64 0), .pv (.int .i64 0), .pv (.int .i64 0), .pv (.int .i64 0), .nil 6]⟩,
 ⟨.scalar, 1, 8, [.pv .nilfn]⟩,
 ⟨.scalar, 1, 8, [.pv .nilfn]⟩,
 ⟨(.slice 54), 1, 24, [.nil 0]⟩,
 ⟨(.struct [(28, 0), (38, 1)]), 2, 48, [.nil 0, .nil 0]⟩,
 ⟨(.struct [(28, 0), (38, 1)]), 2, 48, [.nil 0, .nil 0]⟩,
 ⟨.other, 1, 0, []⟩,
 ⟨.scalar, 1, 8, [.pv .nilfn]⟩,
 ⟨.scalar, 1, 8, [.pv .nilfn]⟩,
 ⟨.scalar, 1, 8, [.pv .nilfn]⟩,
 ⟨(.struct [(3, 0), (3, 1)]), 2, 16, [.pv (.int .i64 0), .pv (.int .i64 0)]⟩,
 ⟨(.struct [(3, 0), (3, 1)]), 2, 16, [.pv (.int .i64 0), .pv (.int .i64 0)]⟩,
 ⟨(.struct [(3, 0), (3, 1), (46, 2), (29, 4)]), 5, 56, [.pv (.int .i64 0), .pv (.int .i64 0), .pv (.int .i64 0), .pv (.int .i64 0), .nil 6]⟩,
 ⟨(.struct [(3, 0), (3, 1), (46, 2), (29, 4)]), 5, 56, [.pv (.int .i64 0), .pv (.int .i64 0), .pv (.int .i64 0), .pv (.int .i64 0), .nil 6]⟩,
 ⟨.scalar, 1, 8, [.pv .nilfn]⟩,
 ⟨.scalar, 1, 8, [.pv .nilfn]⟩,
 ⟨.scalar, 1, 8, [.pv .nilfn]⟩,
 ⟨.scalar, 1, 8, [.pv .nilfn]⟩,
 ⟨.scalar, 1, 8, [.pv .nilfn]⟩,
 ⟨(.slice 46), 1, 24, [.nil 3]⟩,
 ⟨.scalar, 1, 8, [.pv .nilfn]⟩,
 ⟨(.slice 58), 1, 24, [.nil 3]⟩,
 ⟨(.struct [(3, 0), (56, 1)]), 2, 32, [.pv (.int .i64 0), .nil 3]⟩,
 ⟨(.struct [(3, 0), (56, 1)]), 2, 32, [.pv (.int .i64 0), .nil 3]⟩,
 ⟨.other, 1, 0, []⟩,
 ⟨.scalar, 1, 8, [.pv .nilfn]⟩,
 ⟨.scalar, 1, 8, [.pv .nilfn]⟩,
 ⟨.scalar, 1, 8, [.pv .nilfn]⟩,
 ⟨.scalar, 1, 8, [.pv .nilfn]⟩,
 ⟨.scalar, 1, 8, [.pv .nilfn]⟩,
 ⟨.scalar, 1, 8, [.pv .nilfn]⟩,
 ⟨.scalar, 1, 8, [.pv .nilfn]⟩,
 ⟨.scalar, 1, 8, [.pv .nilfn]⟩,
 ⟨.scalar, 1, 8, [.pv .nilfn]⟩,
 ⟨.scalar, 1, 8, [.pv .nilfn]⟩,
 ⟨.scalar, 1, 8, [.pv .nilfn]⟩,
 ⟨.scalar, 1, 8, [.pv .nilfn]⟩,
 ⟨.scalar, 1, 8, [.pv .nilfn]⟩,
 ⟨.scalar, 1, 8, [.pv .nilfn]⟩,
 ⟨.scalar, 1, 8, [.pv .nilfn]⟩,
 ⟨.scalar, 1, 8, [.pv .nilfn]⟩,
 ⟨.scalar, 1, 8, [.pv .nilfn]⟩,
 ⟨.scalar, 1, 8, [.pv .nilfn]⟩,
 ⟨.scalar, 1, 8, [.pv .nilfn]⟩,
 ⟨(.struct [(35, 0), (3, 5), (4, 6)]), 7, 72, [.pv (.int .i64 0), .pv (.int .i64 0), .pv (.int .i64 0), .pv (.int .i64 0), .nil 6, .pv (.int .i64 0), .pv (.bool false)]⟩,
 ⟨(.struct [(35, 0), (3, 5), (4, 6)]), 7, 72, [.pv (.int .i64 0), .pv (.int .i64 0), .pv (.int .i64 0), .pv (.int .i64 0), .nil 6, .pv (.int .i64 0), .pv (.bool false)]⟩,
 ⟨.scalar, 1, 8, [.pv .nilfn]⟩,
 ⟨.scalar, 1, 8, [.pv .nilfn]⟩,
 ⟨.scalar, 1, 8, [.pv .nilfn]⟩,
 ⟨.scalar, 1, 8, [.pv .nilfn]⟩,
 ⟨.other, 1, 0, []⟩,
 ⟨.scalar, 1, 8, [.pv .nilfn]⟩,
 ⟨.scalar, 1, 8, [.pv .nilfn]⟩,
 ⟨.scalar, 1, 8, [.pv .nilfn]⟩,
 ⟨.scalar, 1, 8, [.pv .nilfn]⟩,
 ⟨.scalar, 1, 8, [.pv .nilfn]⟩,
 ⟨(.struct [(24, 0), (27, 1), (31, 2)]), 8, 160, [.nil 3, .nil 0, .nil 0, .nil 6, .pv (.int .i64 0), .nil 0, .nil 0, .pv (.int .i64 0)]⟩,
 ⟨(.struct [(24, 0), (27, 1), (31, 2)]), 8, 160, [.nil 3, .nil 0, .nil 0, .nil 6, .pv (.int .i64 0), .nil 0, .nil 0, .pv (.int .i64 0)]⟩,
 ⟨.scalar, 1, 8, [.pv .nilfn]⟩,
 ⟨.scalar, 1, 8, [.pv .nilfn]⟩,
 ⟨(.map 9 3), 1, 8, [.pv (.con (.map none))]⟩,
 ⟨.scalar, 1, 8, [.pv .nilfn]⟩,
 ⟨.scalar, 1, 8, [.pv .nilfn]⟩,
 ⟨.scalar, 1, 8, [.pv .nilfn]⟩,
 ⟨.scalar, 1, 8, [.pv .nilfn]⟩,
 ⟨(.arr 2 3), 2, 16, [.pv (.int .i64 0), .pv (.int .i64 0)]⟩,
 ⟨.scalar, 1, 8, [.pv .nilfn]⟩,
 ⟨.scalar, 1, 8, [.pv .nilfn]⟩,
 ⟨.scalar, 1, 8, [.pv .nilfn]⟩,
 ⟨.scalar, 1, 8, [.pv .nilfn]⟩,
 ⟨.scalar, 1, 8, [.pv .nilfn]⟩,
 ⟨.scalar, 1, 8, [.pv .nilfn]⟩,
 ⟨.scalar, 1, 8, [.pv .nilfn]⟩,
 ⟨.scalar, 1, 8, [.pv .nilfn]⟩,
 ⟨.scalar, 1, 8, [.pv .nilfn]⟩,
 ⟨.scalar, 1, 8, [.pv .nilfn]⟩,
 ⟨.scalar, 1, 8, [.pv .nilfn]⟩,
 ⟨.scalar, 1, 8, [.pv .nilfn]⟩,
 ⟨.scalar, 1, 8, [.pv .nilfn]⟩,
 ⟨.scalar, 1, 8, [.pv .nilfn]⟩,
 ⟨.scalar, 1, 8, [.pv .nilfn]⟩,
 ⟨.scalar, 1, 8, [.pv .nilfn]⟩,
 ⟨.scalar, 1, 8, [.pv .nilfn]⟩,
 ⟨.scalar, 1, 8, [.pv .nilfn]⟩,
 ⟨.scalar, 1, 8, [.pv .nilfn]⟩,
 ⟨.scalar, 1, 8, [.pv .nilfn]⟩,
 ⟨.scalar, 1, 8, [.pv .nilfn]⟩,
 ⟨.scalar, 1, 8, [.pv .nilfn]⟩,
 ⟨(.int .i64), 1, 8, [.pv (.int .i64 0)]⟩,
 ⟨.other, 1, 0, []⟩,
 ⟨.scalar, 1, 8, [.pv .nilfn]⟩,
 ⟨.scalar, 1, 8, [.pv .nilfn]⟩,
 ⟨.scalar, 1, 8, [.pv .nilfn]⟩,
 ⟨.scalar, 1, 8, [.pv .nilfn]⟩,
 ⟨.scalar, 1, 8, [.pv .nilfn]⟩,
 ⟨.scalar, 1, 8, [.pv .nilfn]⟩,
 ⟨(.arr 16 4), 16, 16, [.pv (.bool false), .pv (.bool false), .pv (.bool false), .pv (.bool false), .pv (.bool false), .pv (.bool false), .pv (.bool false), .pv (.bool false), .pv (.bool false), .pv (.bool false), .pv (.bool false), .pv (.bool false), .pv (.bool false), .pv (.bool false), .pv (.bool false), .pv (.bool false)]⟩,
 ⟨.scalar, 1, 8, [.pv .nilfn]⟩,
 ⟨.scalar, 1, 8, [.pv .nilfn]⟩,
 ⟨.scalar, 1, 8, [.pv .nilfn]⟩,
 ⟨.scalar, 1, 8, [.pv .nilfn]⟩,
 ⟨.scalar, 1, 8, [.pv .nilfn]⟩,
 ⟨.scalar, 1, 8, [.pv .nilfn]⟩,
 ⟨.scalar, 1, 8, [.pv .nilfn]⟩,
 ⟨.scalar, 1, 8, [.pv .nilfn]⟩,
 ⟨(.struct [(3, 0), (3, 1)]), 2, 16, [.pv (.int .i64 0), .pv (.int .i64 0)]⟩,
 ⟨(.struct [(3, 0), (3, 1)]), 2, 16, [.pv (.int .i64 0), .pv (.int .i64 0)]⟩,
 ⟨.scalar, 1, 8, [.pv .nilfn]⟩,
 ⟨(.struct [(35, 0)]), 5, 56, [.pv (.int .i64 0), .pv (.int .i64 0), .pv (.int .i64 0), .pv (.int .i64 0), .nil 6]⟩,
 ⟨(.struct [(35, 0)]), 5, 56, [.pv (.int .i64 0), .pv (.int .i64 0), .pv (.int .i64 0), .pv (.int .i64 0), .nil 6]⟩,
 ⟨.scalar, 1, 8, [.pv .nilfn]⟩,
 ⟨.scalar, 1, 8, [.pv .nilfn]⟩,
 ⟨.scalar, 1, 8, [.pv .nilfn]⟩,
 ⟨.scalar, 1, 8, [.pv .nilfn]⟩,
 ⟨.scalar, 1, 8, [.pv .nilfn]⟩,
 ⟨.scalar, 1, 8, [.pv (.con (.pointer none))]⟩,
 ⟨(.slice 5), 1, 24, [.nil 0]⟩,
 ⟨(.struct [(150, 0), (151, 1)]), 2, 32, [.pv (.con (.pointer none)), .nil 0]⟩,
 ⟨(.struct [(150, 0), (151, 1)]), 2, 32, [.pv (.con (.pointer none)), .nil 0]⟩,
 ⟨.scalar, 1, 16, [.pv (.con .nilIface)]⟩,
 ⟨.scalar, 1, 16, [.pv (.con .nilIface)]⟩,
 ⟨.other, 1, 0, []⟩,
 ⟨.scalar, 1, 8, [.pv .nilfn]⟩,
 ⟨.scalar, 1, 8, [.pv .nilfn]⟩,
 ⟨.scalar, 1, 8, [.pv .nilfn]⟩,
 ⟨.scalar, 1, 8, [.pv .nilfn]⟩,
 ⟨.scalar, 1, 8, [.pv .nilfn]⟩,
 ⟨.other, 0, 0, []⟩,
 ⟨.other, 0, 0, []⟩,
 ⟨.scalar, 1, 8, [.pv .nilfn]⟩,
 ⟨.scalar, 1, 8, [.pv .nilfn]⟩,
 ⟨.scalar, 1, 8, [.pv .nilfn]⟩,
 ⟨.scalar, 1, 8, [.pv .nilfn]⟩,
 ⟨.scalar, 1, 8, [.pv .nilfn]⟩,
 ⟨.scalar, 1, 8, [.pv .nilfn]⟩,
 ⟨.scalar, 1, 8, [.pv .nilfn]⟩,
 ⟨.scalar, 1, 8, [.pv .nilfn]⟩,
 ⟨.scalar, 1, 8, [.pv .nilfn]⟩,
 ⟨.scalar, 1, 8, [.pv .nilfn]⟩,
 ⟨.scalar, 1, 8, [.pv .nilfn]⟩,
 ⟨.scalar, 1, 8, [.pv .nilfn]⟩,
 ⟨(.map 100 38), 1, 8, [.pv (.con (.map none))]⟩,
 ⟨(.slice 100), 1, 24, [.nil 3]⟩,
 ⟨.scalar, 1, 8, [.pv .nilfn]⟩,
 ⟨.scalar, 1, 8, [.pv .nilfn]⟩,
 ⟨.scalar, 1, 8, [.pv .nilfn]⟩,
 ⟨.scalar, 1, 8, [.pv .nilfn]⟩,
 ⟨(.slice 4), 1, 24, [.nil 0]⟩,
 ⟨.scalar, 1, 8, [.pv .nilfn]⟩,
 ⟨.scalar, 1, 8, [.pv .nilfn]⟩,
 ⟨.scalar, 1, 8, [.pv .nilfn]⟩,
 ⟨.scalar, 1, 8, [.pv .nilfn]⟩,
 ⟨.scalar, 1, 8, [.pv .nilfn]⟩,
 ⟨.scalar, 1, 8, [.pv .nilfn]⟩,
 ⟨.scalar, 1, 8, [.pv .nilfn]⟩,
 ⟨.scalar, 1, 8, [.pv .nilfn]⟩,
 ⟨.scalar, 1, 8, [.pv .nilfn]⟩,
 ⟨(.slice 32), 1, 24, [.nil 3]⟩,
 ⟨.scalar, 1, 8, [.pv .nilfn]⟩,
 ⟨.scalar, 1, 8, [.pv .nilfn]⟩,
 ⟨(.map 196 38), 1, 8, [.pv (.con (.map none))]⟩,
 ⟨(.arr 2 3), 2, 16, [.pv (.int .i64 0), .pv (.int .i64 0)]⟩,
 ⟨.other, 1, 0, []⟩,
 ⟨.scalar, 1, 8, [.pv .nilfn]⟩,
 ⟨.scalar, 1, 8, [.pv .nilfn]⟩,
 ⟨.scalar, 1, 8, [.pv .nilfn]⟩,
 ⟨.scalar, 1, 8, [.pv .nilfn]⟩,
 ⟨.scalar, 1, 8, [.pv (.con (.pointer none))]⟩,
 ⟨(.slice 28), 1, 24, [.nil 0]⟩,
 ⟨.scalar, 1, 8, [.pv .nilfn]⟩,
 ⟨.scalar, 1, 8, [.pv .nilfn]⟩,
 ⟨.scalar, 1, 8, [.pv .nilfn]⟩,
 ⟨.scalar, 1, 8, [.pv .nilfn]⟩,
 ⟨.scalar, 1, 8, [.pv .nilfn]⟩,
 ⟨(.int .u64), 1, 8, [.pv (.int .u64 0)]⟩,
 ⟨.scalar, 1, 8, [.pv .nilfn]⟩,
 ⟨.other, 1, 0, []⟩,
 ⟨.scalar, 1, 8, [.pv .nilfn]⟩,
 ⟨.scalar, 1, 8, [.pv .nilfn]⟩,
 ⟨.scalar, 1, 8, [.pv .nilfn]⟩,
 ⟨.scalar, 1, 8, [.pv .nilfn]⟩,
 ⟨.scalar, 1, 8, [.pv .nilfn]⟩,
 ⟨(.int .u64), 1, 8, [.pv (.int .u64 0)]⟩,
 ⟨.other, 1, 0, []⟩,
 ⟨.scalar, 1, 8, [.pv .nilfn]⟩,
 ⟨.scalar, 1, 8, [.pv .nilfn]⟩,
 ⟨.scalar, 1, 8, [.pv .nilfn]⟩,
 ⟨.scalar, 1, 8, [.pv .nilfn]⟩,
 ⟨.scalar, 1, 8, [.pv .nilfn]⟩,
 ⟨.scalar, 1, 8, [.pv .nilfn]⟩,
 ⟨.other, 1, 0, []⟩,
 ⟨.scalar, 1, 8, [.pv .nilfn]⟩,
 ⟨.scalar, 1, 8, [.pv .nilfn]⟩,
 ⟨.other, 1, 0, []⟩,
 ⟨.scalar, 1, 8, [.pv .nilfn]⟩,
 ⟨.scalar, 1, 8, [.pv .nilfn]⟩,
 ⟨.other, 1, 8, []⟩,
 ⟨.scalar, 1, 8, [.pv .nilfn]⟩,
 ⟨.scalar, 1, 8, [.pv .nilfn]⟩,
 ⟨.scalar, 1, 8, [.pv .nilfn]⟩,
 ⟨(.struct [(3, 0), (3, 1), (181, 2)]), 3, 24, [.pv (.int .i64 0), .pv (.int .i64 0), .pv .nilfn]⟩,
 ⟨(.struct [(3, 0), (3, 1), (181, 2)]), 3, 24, [.pv (.int .i64 0), .pv (.int .i64 0), .pv .nilfn]⟩,
 ⟨.scalar, 1, 8, [.pv .nilfn]⟩,
 ⟨.scalar, 1, 8, [.pv .nilfn]⟩,
 ⟨(.int .i64), 1, 8, [.pv (.int .i64 0)]⟩,
 ⟨.other, 1, 0, []⟩,
 ⟨.scalar, 1, 8, [.pv .nilfn]⟩,
 ⟨.scalar, 1, 8, [.pv .nilfn]⟩,
 ⟨.scalar, 1, 8, [.pv .nilfn]⟩,
 ⟨.scalar, 1, 8, [.pv .nilfn]⟩,
 ⟨.scalar, 1, 8, [.pv .nilfn]⟩,
 ⟨(.int .u32), 1, 4, [.pv (.int .u32 0)]⟩,
 ⟨.scalar, 1, 8, [.pv .nilfn]⟩,
 ⟨.scalar, 1, 8, [.pv .nilfn]⟩,
 ⟨.scalar, 1, 8, [.pv .nilfn]⟩,
 ⟨.scalar, 1, 8, [.pv .nilfn]⟩,
 ⟨.scalar, 1, 8, [.pv .nilfn]⟩,
 ⟨.scalar, 1, 8, [.pv .nilfn]⟩,
 ⟨.scalar, 1, 8, [.pv .nilfn]⟩,
 ⟨(.arr 24 5), 24, 24, [.pv (.int .u8 0), .pv (.int .u8 0), .pv (.int .u8 0), .pv (.int .u8 0), .pv (.int .u8 0), .pv (.int .u8 0), .pv (.int .u8 0), .pv (.int .u8 0), .pv (.int .u8 0), .pv (.int .u8 0), .pv (.int .u8 0), .pv (.int .u8 0), .pv (.int .u8 0), .pv (.int .u8 0), .pv (.int .u8 0), .pv (.int .u8 0), .pv (.int .u8 0), .pv (.int .u8 0), .pv (.int .u8 0), .pv (.int .u8 0), .pv (.int .u8 0), .pv (.int .u8 0), .pv (.int .u8 0), .pv (.int .u8 0)]⟩,
 ⟨.scalar, 1, 8, [.pv .nilfn]⟩,
 ⟨.other, 1, 0, []⟩,
 ⟨.scalar, 1, 8, [.pv .nilfn]⟩,
 ⟨.scalar, 1, 8, [.pv .nilfn]⟩,
 ⟨(.int .u64), 1, 8, [.pv (.int .u64 0)]⟩,
 ⟨.scalar, 1, 8, [.pv .nilfn]⟩,
 ⟨.scalar, 1, 8, [.pv .nilfn]⟩,
 ⟨.scalar, 1, 8, [.pv .nilfn]⟩,
 ⟨.scalar, 1, 8, [.pv (.con (.pointer none))]⟩,
 ⟨.scalar, 1, 8, [.pv .nilfn]⟩,
 ⟨.scalar, 1, 8, [.pv .nilfn]⟩,
 ⟨.scalar, 1, 8, [.pv .nilfn]⟩,
 ⟨.scalar, 1, 8, [.pv .nilfn]⟩,
 ⟨.scalar, 1, 8, [.pv .nilfn]⟩,
 ⟨(.arr 20 217), 20, 160, [.pv (.int .u64 0), .pv (.int .u64 0), .pv (.int .u64 0), .pv (.int .u64 0), .pv (.int .u64 0), .pv (.int .u64 0), .pv (.int .u64 0), .pv (.int .u64 0), .pv (.int .u64 0), .pv (.int .u64 0), .pv (.int .u64 0), .pv (.int .u64 0), .pv (.int .u64 0), .pv (.int .u64 0), .pv (.int .u64 0), .pv (.int .u64 0), .pv (.int .u64 0), .pv (.int .u64 0), .pv (.int .u64 0), .pv (.int .u64 0)]⟩,
 ⟨.other, 65, 65, []⟩,
 ⟨.scalar, 1, 8, [.pv .nilfn]⟩,
 ⟨.scalar, 1, 8, [.pv .nilfn]⟩,
 ⟨.scalar, 1, 8, [.pv .nilfn]⟩,
 ⟨.scalar, 1, 8, [.pv .nilfn]⟩,
 ⟨.scalar, 1, 8, [.pv .nilfn]⟩,
 ⟨.scalar, 1, 8, [.pv (.con (.pointer none))]⟩,
 ⟨.other, 1, 0, []⟩,
 ⟨.scalar, 1, 8, [.pv .nilfn]⟩,
 ⟨.scalar, 1, 8, [.pv .nilfn]⟩,
 ⟨.scalar, 1, 8, [.pv .nilfn]⟩,
 ⟨.scalar, 1, 8, [.pv .nilfn]⟩,
 ⟨(.arr 32 5), 32, 32, [.pv (.int .u8 0), .pv (.int .u8 0), .pv (.int .u8 0), .pv (.int .u8 0), .pv (.int .u8 0), .pv (.int .u8 0), .pv (.int .u8 0), .pv (.int .u8 0), .pv (.int .u8 0), .pv (.int .u8 0), .pv (.int .u8 0), .pv (.int .u8 0), .pv (.int .u8 0), .pv (.int .u8 0), .pv (.int .u8 0), .pv (.int .u8 0), .pv (.int .u8 0), .pv (.int .u8 0), .pv (.int .u8 0), .pv (.int .u8 0), .pv (.int .u8 0), .pv (.int .u8 0), .pv (.int .u8 0), .pv (.int .u8 0), .pv (.int .u8 0), .pv (.int .u8 0), .pv (.int .u8 0), .pv (.int .u8 0), .pv (.int .u8 0), .pv (.int .u8 0), .pv (.int .u8 0), .pv (.int .u8 0)]⟩,
 ⟨(.arr 64 5), 64, 64, [.pv (.int .u8 0), .pv (.int .u8 0), .pv (.int .u8 0), .pv (.int .u8 0), .pv (.int .u8 0), .pv (.int .u8 0), .pv (.int .u8 0), .pv (.int .u8 0), .pv (.int .u8 0), .pv (.int .u8 0), .pv (.int .u8 0), .pv (.int .u8 0), .pv (.int .u8 0), .pv (.int .u8 0), .pv (.int .u8 0), .pv (.int .u8 0), .pv (.int .u8 0), .pv (.int .u8 0), .pv (.int .u8 0), .pv (.int .u8 0), .pv (.int .u8 0), .pv (.int .u8 0), .pv (.int .u8 0), .pv (.int .u8 0), .pv (.int .u8 0), .pv (.int .u8 0), .pv (.int .u8 0), .pv (.int .u8 0), .pv (.int .u8 0), .pv (.int .u8 0), .pv (.int .u8 0), .pv (.int .u8 0), .pv (.int .u8 0), .pv (.int .u8 0), .pv (.int .u8 0), .pv (.int .u8 0), .pv (.int .u8 0), .pv (.int .u8 0), .pv (.int .u8 0), .pv (.int .u8 0), .pv (.int .u8 0), .pv (.int .u8 0), .pv (.int .u8 0), .pv (.int .u8 0), .pv (.int .u8 0), .pv (.int .u8 0), .pv (.int .u8 0), .pv (.int .u8 0), .pv (.int .u8 0), .pv (.int .u8 0), .pv (.int .u8 0), .pv (.int .u8 0), .pv (.int .u8 0), .pv (.int .u8 0), .pv (.int .u8 0), .pv (.int .u8 0), .pv (.int .u8 0), .pv (.int .u8 0), .pv (.int .u8 0), .pv (.int .u8 0), .pv (.int .u8 0), .pv (.int .u8 0), .pv (.int .u8 0), .pv (.int .u8 0)]⟩,
 ⟨.other, 4, 40, []⟩,
 ⟨.other, 4, 40, []⟩,
 ⟨.other, 0, 0, []⟩,
 ⟨.other, 0, 0, []⟩,
 ⟨.other, 0, 0, []⟩,
 ⟨(.int .u8), 1, 1, [.pv (.int .u8 0)]⟩,
 ⟨(.int .u8), 1, 1, [.pv (.int .u8 0)]⟩,
 ⟨.scalar, 1, 8, [.pv .nilfn]⟩,
 ⟨(.int .i32), 1, 4, [.pv (.int .i32 0)]⟩,
 ⟨(.int .i32), 1, 4, [.pv (.int .i32 0)]⟩,
 ⟨.other, 11, 48, []⟩,
 ⟨.other, 11, 48, []⟩]
def h7 : Hint := ⟨6, ⟨[], [], [], [], [], []⟩, [], [], [], [(5, [6, 7, 8, 9, 10, 11]), (13, [6, 7, 8, 9, 10, 11])]⟩
noncomputable def fi7 : FnI := mkFn Tryz.f7 h7
def h16 : Hint := ⟨2, ⟨[], [], [], [], [], []⟩, [(5, [2, 3, 5, 27, 28]), (11, [51])], [(5, [5]), (11, [4])], [], [(3, [2, 3])]⟩
noncomputable def fi16 : FnI := zQu Tryz.f16 h16 3 5
def h18 : Hint := ⟨0, ⟨[], [], [], [], [], []⟩, [], [], [], []⟩
noncomputable def fi18 : FnI := mkFn Tryz.f18 h18
def h19 : Hint := ⟨3, ⟨[], [], [], [], [], []⟩, [], [], [], []⟩
noncomputable def fi19 : FnI := mkFn Tryz.f19 h19
def h20 : Hint := ⟨2, ⟨[], [], [], [], [], []⟩, [(5, [2, 5, 6])], [(5, [4])], [], [(4, [2, 5])]⟩
noncomputable def fi20 : FnI := mkFn Tryz.f20 h20
def h21 : Hint := ⟨3, ⟨[], [], [], [], [], []⟩, [], [], [], [(3, [3, 4, 5, 6])]⟩
noncomputable def fi21 : FnI := mkFn Tryz.f21 h21
def h22 : Hint := ⟨2, ⟨[], [], [], [], [], []⟩, [(6, [3, 6, 43, 44, 45])], [(6, [3, 4, 6])], [], [(4, [2, 3]), (14, [3, 10])]⟩
noncomputable def fi22 : FnI := mkFn Tryz.f22 h22
def h23 : Hint := ⟨2, ⟨[], [], [], [], [], []⟩, [(4, [0, 1, 5])], [(4, [4])], [], []⟩
noncomputable def fi23 : FnI := mkFn Tryz.f23 h23
def h25 : Hint := ⟨4, ⟨[], [36, 37, 38], [], [], [], []⟩, [], [], [], [(3, [4, 5, 6, 7, 8])]⟩
noncomputable def fi25 : FnI := mkFn Tryz.f25 h25
def h28 : Hint := ⟨1, ⟨[], [], [], [], [], []⟩, [], [], [], []⟩
noncomputable def fi28 : FnI := mkFn Tryz.f28 h28
def h29 : Hint := ⟨2, ⟨[], [], [], [], [], []⟩, [(3, [1, 2, 5, 6])], [(3, [5])], [], [(5, [1, 2, 5, 6])]⟩
noncomputable def fi29 : FnI := mkFn Tryz.f29 h29
def h32 : Hint := ⟨2, ⟨[], [], [], [], [], []⟩, [], [], [], []⟩
noncomputable def fi32 : FnI := mkFn Tryz.f32 h32
def h35 : Hint := ⟨2, ⟨[], [], [], [], [], []⟩, [(5, [2, 3, 6])], [(5, [4])], [], [(4, [2, 3])]⟩
noncomputable def fi35 : FnI := mkFn Tryz.f35 h35
def h36 : Hint := ⟨4, ⟨[], [], [], [], [], []⟩, [], [], [], []⟩
noncomputable def fi36 : FnI := mkFn Tryz.f36 h36
def h38 : Hint := ⟨2, ⟨[], [], [], [], [], []⟩, [], [], [], []⟩
noncomputable def fi38 : FnI := mkFn Tryz.f38 h38
def h39 : Hint := ⟨2, ⟨[6, 10, 13, 42, 66, 72], [], [], [], [], []⟩, [(5, [1, 2, 4, 6, 26, 27, 28]), (14, [4, 6, 10, 48, 49, 50]), (18, [4, 6, 10, 12, 13, 48, 49, 50, 54, 55, 56])], [(5, [1, 2, 4, 5, 6]), (14, [4, 10]), (18, [4, 6, 10, 13, 48, 49, 50])], [(22, [26]), (24, [20])], [(3, [1, 2, 4])]⟩
noncomputable def fi39 : FnI := mkFn Tryz.f39 h39
def h40 : Hint := ⟨2, ⟨[], [], [], [], [], []⟩, [], [], [], []⟩
noncomputable def fi40 : FnI := mkFn Tryz.f40 h40
def h41 : Hint := ⟨1, ⟨[3], [], [], [], [], []⟩, [(3, [1, 3, 10, 11, 12]), (11, [1, 6, 31, 32, 33])], [(3, [1, 2]), (11, [1, 2])], [], []⟩
noncomputable def fi41 : FnI := mkFn Tryz.f41 h41
def h42 : Hint := ⟨2, ⟨[], [], [], [], [], []⟩, [], [], [], []⟩
noncomputable def fi42 : FnI := mkFn Tryz.f42 h42
def h46 : Hint := ⟨0, ⟨[], [], [], [], [], []⟩, [], [], [], []⟩
noncomputable def fi46 : FnI := mkFn Tryz.f46 h46
def h50 : Hint := ⟨2, ⟨[], [28, 35], [], [], [], []⟩, [(4, [2, 21, 22, 23])], [(4, [4])], [], [(3, [2, 3])]⟩
noncomputable def fi50 : FnI := mkFn Tryz.f50 h50
def h52 : Hint := ⟨2, ⟨[], [], [], [], [], []⟩, [(4, [0, 1, 12, 13])], [(4, [4])], [], []⟩ -- slices.Equal[[]int,int]
noncomputable def fi52 : FnI := mkFn Tryz.f52 h52
def h53 : Hint := ⟨1, ⟨[], [21, 23], [], [], [], []⟩, [(3, [3, 6, 7, 8])], [(3, [3])], [], []⟩
noncomputable def fi53 : FnI := mkFn Tryz.f53 h53
def h54 : Hint := ⟨2, ⟨[], [], [], [], [], []⟩, [(2, [0, 1, 7, 8])], [(2, [4])], [], []⟩ -- slices.Index[[]int,int]
noncomputable def fi54 : FnI := mkFn Tryz.f54 h54
def h59 : Hint := ⟨2, ⟨[], [], [], [], [], []⟩, [], [], [], []⟩
noncomputable def fi59 : FnI := mkFn Tryz.f59 h59
def h60 : Hint := ⟨1, ⟨[], [], [], [], [], []⟩, [], [], [], []⟩
noncomputable def fi60 : FnI := mkFn Tryz.f60 h60
def h61 : Hint := ⟨1, ⟨[], [], [], [], [], []⟩, [], [], [], []⟩
noncomputable def fi61 : FnI := mkFn Tryz.f61 h61
def h62 : Hint := ⟨3, ⟨[], [], [], [], [], []⟩, [(3, [0, 1, 2, 3, 4, 5])], [(3, [2, 3, 4])], [], []⟩
noncomputable def fi62 : FnI := mkFn Tryz.f62 h62
def h63 : Hint := ⟨2, ⟨[], [], [], [], [], []⟩, [], [], [], []⟩
noncomputable def fi63 : FnI := mkFn Tryz.f63 h63
def h64 : Hint := ⟨4, ⟨[10, 45], [], [], [], [], []⟩, [(5, [2, 3, 5, 8, 10, 36, 37])], [(5, [2, 5, 8, 10])], [(9, [20])], [(3, [2, 3, 4, 5, 8])]⟩
noncomputable def fi64 : FnI := mkFn Tryz.f64 h64
def h65 : Hint := ⟨2, ⟨[6, 65], [], [], [], [], []⟩, [(5, [3, 4, 6, 45, 46, 47]), (8, [3, 4, 6, 8, 45, 46, 47, 52, 53, 54])], [(5, [4, 6]), (8, [3, 4, 6, 45, 46, 47])], [(2, [12]), (13, [12])], [(4, [2, 3, 4, 6])]⟩
noncomputable def fi65 : FnI := mkFn Tryz.f65 h65
def h66 : Hint := ⟨2, ⟨[], [], [], [], [], []⟩, [], [], [], []⟩
noncomputable def fi66 : FnI := mkFn Tryz.f66 h66
def h67 : Hint := ⟨1, ⟨[], [], [], [], [], []⟩, [], [], [], []⟩
noncomputable def fi67 : FnI := mkFn Tryz.f67 h67
def h68 : Hint := ⟨2, ⟨[], [], [], [], [], []⟩, [], [], [], []⟩ -- slices.ContainsFunc[[]int,int]
noncomputable def fi68 : FnI := mkFn Tryz.f68 h68
def h69 : Hint := ⟨3, ⟨[7, 52], [], [], [], [], []⟩, [(3, [2, 3, 4, 7, 14, 15]), (8, [2, 3, 4, 7, 8, 14, 15, 43, 44])], [(3, [7]), (8, [2, 3, 4, 7, 14, 15])], [], [(7, [2, 3, 4, 7, 8, 9, 14, 15])]⟩
noncomputable def fi69 : FnI := mkFn Tryz.f69 h69
def h70 : Hint := ⟨1, ⟨[], [], [], [], [], []⟩, [], [], [], []⟩
noncomputable def fi70 : FnI := mkFn Tryz.f70 h70
def h71 : Hint := ⟨1, ⟨[3], [8, 9, 11, 13], [], [(13, [(.pv .undef, [.dead])])], [11], []⟩, [], [], [(4, []), (5, []), (6, [])], []⟩
noncomputable def fi71 : FnI := mkFn Tryz.f71 h71
def h72 : Hint := ⟨2, ⟨[], [], [], [], [], []⟩, [], [], [], []⟩
noncomputable def fi72 : FnI := mkFn Tryz.f72 h72
def h73 : Hint := ⟨1, ⟨[], [5, 7, 9], [5], [(5, [(.view 0 0 none, [.row false 0 0 []])]), (9, [(.pv .undef, [.dead])])], [7], []⟩, [], [], [(2, []), (3, [])], []⟩
noncomputable def fi73 : FnI := mkFn Tryz.f73 h73
def h74 : Hint := ⟨2, ⟨[], [], [], [], [], []⟩, [], [], [], []⟩ -- slices.Contains[[]int,int]
noncomputable def fi74 : FnI := mkFn Tryz.f74 h74
def h77 : Hint := ⟨1, ⟨[], [], [], [], [], []⟩, [], [], [], []⟩
noncomputable def fi77 : FnI := mkFn Tryz.f77 h77
def h78 : Hint := ⟨5, ⟨[], [41, 47], [], [], [], [8, 9, 41, 47]⟩, [], [], [], []⟩
noncomputable def fi78 : FnI := mkFn Tryz.f78 h78
def h79 : Hint := ⟨2, ⟨[5, 21], [], [], [], [], []⟩, [(3, [2, 5, 8, 9, 10])], [(3, [5])], [], []⟩
noncomputable def fi79 : FnI := mkFn Tryz.f79 h79
def h80 : Hint := ⟨3, ⟨[], [16, 17], [], [], [], []⟩, [], [], [], []⟩
noncomputable def fi80 : FnI := mkFn Tryz.f80 h80
def h81 : Hint := ⟨2, ⟨[], [5], [], [], [], []⟩, [], [], [], []⟩
noncomputable def fi81 : FnI := mkFn Tryz.f81 h81
def h83 : Hint := ⟨2, ⟨[], [], [], [], [], []⟩, [], [], [], [(4, [1, 2, 11]), (7, [2, 6])]⟩
noncomputable def fi83 : FnI := mkFn Tryz.f83 h83
def h93 : Hint := ⟨2, ⟨[], [], [], [], [], []⟩, [(4, [0, 1, 5])], [(4, [4])], [], []⟩
noncomputable def fi93 : FnI := mkFn Tryz.f93 h93
def h96 : Hint := ⟨1, ⟨[2, 5, 7], [], [], [], [], []⟩, [], [], [], []⟩ -- slices.Clone[[]int,int]
noncomputable def fi96 : FnI := mkFn Tryz.f96 h96
def h97 : Hint := ⟨2, ⟨[5, 23], [19], [], [], [], []⟩, [(3, [1, 5, 9, 10, 11])], [(3, [5])], [], []⟩
noncomputable def fi97 : FnI := mkFn Tryz.f97 h97
def h98 : Hint := ⟨2, ⟨[], [], [], [], [], []⟩, [], [], [], []⟩
noncomputable def fi98 : FnI := mkFn Tryz.f98 h98
def h99 : Hint := ⟨1, ⟨[], [], [], [], [], []⟩, [], [], [], []⟩
noncomputable def fi99 : FnI := mkFn Tryz.f99 h99
def h100 : Hint := ⟨1, ⟨[], [], [], [], [], []⟩, [], [], [], []⟩
noncomputable def zWv : FnI := mkFn Tryz.f100 h100
def h101 : Hint := ⟨2, ⟨[], [], [], [], [], []⟩, [], [], [], []⟩ -- slices.ContainsFunc[[]roadbook/api.Val,roadbook/api.Val]
noncomputable def zWw : FnI := mkFn Tryz.f101 h101
def h102 : Hint := ⟨2, ⟨[5, 27], [], [], [], [], []⟩, [(3, [1, 4, 5, 13, 14, 15])], [(3, [4, 5])], [(8, [])], []⟩
noncomputable def zUP : FnI := mkFn Tryz.f102 h102
def h103 : Hint := ⟨3, ⟨[], [], [], [], [], []⟩, [], [], [], []⟩
noncomputable def zWx : FnI := mkFn Tryz.f103 h103
def h104 : Hint := ⟨2, ⟨[], [], [], [], [], []⟩, [], [], [], []⟩ -- slices.ContainsFunc[[]roadbook/api.Expr,roadbook/api.Expr]
noncomputable def zWy : FnI := mkFn Tryz.f104 h104
def h105 : Hint := ⟨3, ⟨[], [], [], [], [], []⟩, [], [], [], []⟩
noncomputable def zWz : FnI := mkFn Tryz.f105 h105
def h106 : Hint := ⟨3, ⟨[], [], [], [], [], []⟩, [], [], [], []⟩
noncomputable def zXA : FnI := mkFn Tryz.f106 h106
def h113 : Hint := ⟨3, ⟨[], [], [], [], [], []⟩, [], [], [], []⟩
noncomputable def zXB : FnI := mkFn Tryz.f113 h113
def h114 : Hint := ⟨2, ⟨[], [], [], [], [], []⟩, [], [], [], []⟩
noncomputable def zXC : FnI := mkFn Tryz.f114 h114
def h115 : Hint := ⟨2, ⟨[], [7], [], [], [], []⟩, [], [], [], []⟩ -- slices.ContainsFunc[[][]roadbook/api.Val,[]roadbook/api.Val]
noncomputable def zXD : FnI := mkFn Tryz.f115 h115
def h125 : Hint := ⟨2, ⟨[], [], [], [], [], []⟩, [(3, [3, 5, 6])], [(3, [5])], [], [(2, [3, 5]), (5, [3, 6])]⟩
noncomputable def zN6 : FnI := mkFn Tryz.f125 h125
def h126 : Hint := ⟨1, ⟨[], [], [], [], [], []⟩, [(3, [1, 3, 4]), (7, [1, 3, 4, 5])], [(3, [3]), (7, [1, 3, 4])], [], [(5, [1, 4]), (9, [1, 4, 5])]⟩
noncomputable def zLH : FnI := mkFn Tryz.f126 h126
def h128 : Hint := ⟨3, ⟨[], [], [], [], [], []⟩, [], [], [], []⟩
noncomputable def zXE : FnI := mkFn Tryz.f128 h128
def h129 : Hint := ⟨2, ⟨[], [], [], [], [], []⟩, [], [], [], [(3, [0, 1])]⟩
noncomputable def zUQ : FnI := mkFn Tryz.f129 h129
def h130 : Hint := ⟨1, ⟨[6, 24, 33], [24], [24], [(24, [(.view 0 0 none, [.row false 0 0 []])])], [], []⟩, [(3, [0, 3, 9, 10, 11]), (11, [6, 25, 26, 27])], [(3, [0, 3]), (11, [6])], [], []⟩ -- slices.Concat[[]int,int]
noncomputable def zQw : FnI := mkFn Tryz.f130 h130
def h131 : Hint := ⟨1, ⟨[6, 24, 33], [24], [24], [(24, [(.view 0 0 none, [.row false 0 3 []])])], [], []⟩, [(3, [0, 3, 9, 10, 11]), (11, [6, 25, 26, 27])], [(3, [0, 3]), (11, [6])], [], []⟩ -- slices.Concat[[]roadbook/api.Val,roadbook/api.Val]
noncomputable def zQx : FnI := mkFn Tryz.f131 h131
def h132 : Hint := ⟨2, ⟨[], [], [], [], [], []⟩, [], [], [], []⟩ -- slices.ContainsFunc[[]roadbook/api.Def,roadbook/api.Def]
noncomputable def zXF : FnI := mkFn Tryz.f132 h132
def h133 : Hint := ⟨1, ⟨[], [], [], [], [], []⟩, [], [], [], []⟩
noncomputable def zXG : FnI := mkFn Tryz.f133 h133
def h134 : Hint := ⟨1, ⟨[], [], [], [], [], []⟩, [], [], [], []⟩
noncomputable def zXH : FnI := mkFn Tryz.f134 h134
def h135 : Hint := ⟨2, ⟨[], [], [], [], [], []⟩, [(2, [0, 1, 7, 8])], [(2, [4])], [], []⟩ -- slices.IndexFunc[[]int,int]
noncomputable def zUR : FnI := mkFn Tryz.f135 h135
def h136 : Hint := ⟨1, ⟨[], [5, 6], [], [], [], []⟩, [], [], [], []⟩
noncomputable def zXI : FnI := mkFn Tryz.f136 h136
def h137 : Hint := ⟨3, ⟨[], [12, 25], [], [], [], []⟩, [(4, [1, 2, 15, 16, 17])], [(4, [6])], [], []⟩
noncomputable def zOu : FnI := mkFn Tryz.f137 h137
def h138 : Hint := ⟨3, ⟨[2, 13], [], [], [], [], []⟩, [], [], [], []⟩
noncomputable def zXJ : FnI := mkFn Tryz.f138 h138
def h139 : Hint := ⟨1, ⟨[], [], [], [], [], []⟩, [], [], [], []⟩ -- slices.Sort[[]int,int]
noncomputable def zY2 : FnI := mkFn Tryz.f139 h139
def h140 : Hint := ⟨1, ⟨[0], [], [], [], [], []⟩, [(4, [0, 3]), (9, [0, 3, 4, 5])], [(4, [0, 2]), (9, [0, 3])], [], []⟩ -- slices.Compact[[]int,int]
noncomputable def zY3 : FnI := mkFn Tryz.f140 h140
def h141 : Hint := ⟨2, ⟨[], [], [], [], [], []⟩, [], [], [], []⟩
noncomputable def zXK : FnI := mkFn Tryz.f141 h141
def h145 : Hint := ⟨4, ⟨[], [], [], [], [], []⟩, [], [], [], []⟩
noncomputable def zXL : FnI := mkFn Tryz.f145 h145
def h156 : Hint := ⟨1, ⟨[], [], [], [], [], []⟩, [], [], [], []⟩
noncomputable def zXM : FnI := mkFn Tryz.f156 h156
def h164 : Hint := ⟨1, ⟨[], [], [], [], [], []⟩, [], [], [], []⟩
noncomputable def zXN : FnI := mkFn Tryz.f164 h164
def h165 : Hint := ⟨2, ⟨[], [], [], [], [], []⟩, [(2, [0, 1, 7, 8])], [(2, [4])], [], []⟩ -- slices.IndexFunc[[]roadbook/api.Val,roadbook/api.Val]
noncomputable def zUS : FnI := mkFn Tryz.f165 h165
def h166 : Hint := ⟨1, ⟨[2, 5, 7], [], [], [], [], []⟩, [], [], [], []⟩ -- slices.Clone[[]roadbook/api.Val,roadbook/api.Val]
noncomputable def zXO : FnI := mkFn Tryz.f166 h166
def h167 : Hint := ⟨2, ⟨[], [], [], [], [], []⟩, [(2, [0, 1, 7, 8])], [(2, [4])], [], []⟩ -- slices.IndexFunc[[]roadbook/api.Expr,roadbook/api.Expr]
noncomputable def zUT : FnI := mkFn Tryz.f167 h167
def h168 : Hint := ⟨1, ⟨[], [], [], [], [], []⟩, [], [], [], []⟩
noncomputable def zXP : FnI := mkFn Tryz.f168 h168
def h169 : Hint := ⟨3, ⟨[], [], [], [], [], []⟩, [], [], [], []⟩
noncomputable def zXQ : FnI := mkFn Tryz.f169 h169
def h174 : Hint := ⟨1, ⟨[], [], [], [], [], []⟩, [], [], [], []⟩
noncomputable def zXR : FnI := mkFn Tryz.f174 h174
def h175 : Hint := ⟨2, ⟨[], [16], [], [], [], []⟩, [(2, [0, 1, 7, 8])], [(2, [4])], [], []⟩ -- slices.IndexFunc[[][]roadbook/api.Val,[]roadbook/api.Val]
noncomputable def zUU : FnI := mkFn Tryz.f175 h175
def h179 : Hint := ⟨2, ⟨[], [], [], [], [], []⟩, [], [], [], []⟩
noncomputable def zXS : FnI := mkFn Tryz.f179 h179
def h183 : Hint := ⟨2, ⟨[], [], [], [], [], []⟩, [], [], [], []⟩
noncomputable def zXT : FnI := mkFn Tryz.f183 h183
def h184 : Hint := ⟨2, ⟨[0, 4, 22], [], [], [], [], []⟩, [], [], [], [(3, [0, 1])]⟩ -- slices.Grow[[]int,int]
noncomputable def zUV : FnI := mkFn Tryz.f184 h184
def h185 : Hint := ⟨2, ⟨[0, 4, 22], [], [], [], [], []⟩, [], [], [], [(3, [0, 1])]⟩ -- slices.Grow[[]roadbook/api.Val,roadbook/api.Val]
noncomputable def zUW : FnI := mkFn Tryz.f185 h185
def h186 : Hint := ⟨2, ⟨[], [], [], [], [], []⟩, [(2, [0, 1, 7, 8])], [(2, [4])], [], []⟩ -- slices.IndexFunc[[]roadbook/api.Def,roadbook/api.Def]
noncomputable def zUX : FnI := mkFn Tryz.f186 h186
def h187 : Hint := ⟨3, ⟨[], [], [], [], [], []⟩, [], [], [], []⟩
noncomputable def zXU : FnI := mkFn Tryz.f187 h187
def h188 : Hint := ⟨1, ⟨[], [], [], [], [], []⟩, [], [], [], [(3, [1, 4]), (4, [1, 4, 5]), (5, [1, 4, 5, 6])]⟩
noncomputable def zN7 : FnI := mkFn Tryz.f188 h188
def h200 : Hint := ⟨2, ⟨[], [], [], [], [], []⟩, [], [], [], []⟩
noncomputable def zXV : FnI := mkFn Tryz.f200 h200
def h201 : Hint := ⟨1, ⟨[], [], [], [], [], []⟩, [], [], [], []⟩
noncomputable def zXW : FnI := mkFn Tryz.f201 h201
def h202 : Hint := ⟨0, ⟨[], [], [], [], [], []⟩, [], [], [], []⟩
noncomputable def zXX : FnI := mkFn Tryz.f202 h202
def h204 : Hint := ⟨0, ⟨[], [], [], [], [], []⟩, [], [], [], []⟩
noncomputable def zXY : FnI := mkFn Tryz.f204 h204
def h209 : Hint := ⟨1, ⟨[], [], [], [], [], []⟩, [(3, [3, 9, 10, 11])], [(3, [3])], [], []⟩
noncomputable def zUY : FnI := mkFn Tryz.f209 h209
def h210 : Hint := ⟨3, ⟨[8, 49], [], [], [], [], []⟩, [(11, [1, 2, 3, 6, 8, 37, 38, 39])], [(11, [3, 6, 8])], [(15, [16])], [(8, [2, 6, 7])]⟩
noncomputable def zQy : FnI := mkFn Tryz.f210 h210
def h215 : Hint := ⟨1, ⟨[], [], [], [], [], []⟩, [], [], [], []⟩
noncomputable def zXZ : FnI := mkFn Tryz.f215 h215
def h217 : Hint := ⟨1, ⟨[], [], [], [], [], []⟩, [], [], [], []⟩
noncomputable def zX0 : FnI := mkFn Tryz.f217 h217
def h218 : Hint := ⟨1, ⟨[], [], [], [], [], []⟩, [], [], [], []⟩
noncomputable def zX1 : FnI := mkFn Tryz.f218 h218
def h222 : Hint := ⟨2, ⟨[], [], [], [], [], []⟩, [(3, [1, 2, 5, 6])], [(3, [5])], [], [(5, [1, 2, 5, 6])]⟩
noncomputable def zQz : FnI := mkFn Tryz.f222 h222
def h223 : Hint := ⟨1, ⟨[], [], [], [], [], []⟩, [], [], [], []⟩
noncomputable def zX2 : FnI := mkFn Tryz.f223 h223
def h246 : Hint := ⟨2, ⟨[], [], [], [], [], []⟩, [], [], [], []⟩
noncomputable def zX3 : FnI := mkFn Tryz.f246 h246
def h248 : Hint := ⟨1, ⟨[], [], [], [], [], []⟩, [], [], [], []⟩
noncomputable def zX4 : FnI := mkFn Tryz.f248 h248
def h254 : Hint := ⟨1, ⟨[], [], [], [], [], []⟩, [], [], [], []⟩
noncomputable def zX5 : FnI := mkFn Tryz.f254 h254
def h255 : Hint := ⟨2, ⟨[], [], [], [], [], []⟩, [], [], [], []⟩
noncomputable def zX6 : FnI := mkFn Tryz.f255 h255
def h256 : Hint := ⟨2, ⟨[], [], [], [], [], []⟩, [], [], [], []⟩
noncomputable def zX7 : FnI := mkFn Tryz.f256 h256
def h257 : Hint := ⟨2, ⟨[], [], [], [], [], []⟩, [], [], [], []⟩
noncomputable def zX8 : FnI := mkFn Tryz.f257 h257
def h258 : Hint := ⟨2, ⟨[], [], [], [], [], []⟩, [], [], [], []⟩
noncomputable def zX9 : FnI := mkFn Tryz.f258 h258
def h259 : Hint := ⟨2, ⟨[], [], [], [], [], []⟩, [], [], [], []⟩
noncomputable def zXa : FnI := mkFn Tryz.f259 h259
def h260 : Hint := ⟨1, ⟨[], [], [], [], [], []⟩, [], [], [], []⟩
noncomputable def zXb : FnI := mkFn Tryz.f260 h260
def h261 : Hint := ⟨1, ⟨[], [], [], [], [], []⟩, [], [], [], []⟩
noncomputable def zXc : FnI := mkFn Tryz.f261 h261
def h262 : Hint := ⟨1, ⟨[], [], [], [], [], []⟩, [], [], [], []⟩
noncomputable def zXd : FnI := mkFn Tryz.f262 h262
def h263 : Hint := ⟨1, ⟨[], [], [], [], [], []⟩, [], [], [], []⟩
noncomputable def zXe : FnI := mkFn Tryz.f263 h263
def h264 : Hint := ⟨1, ⟨[], [], [], [], [], []⟩, [], [], [], []⟩
noncomputable def zXf : FnI := mkFn Tryz.f264 h264
def h265 : Hint := ⟨1, ⟨[], [], [], [], [], []⟩, [], [], [], []⟩
noncomputable def zXg : FnI := mkFn Tryz.f265 h265
def h290 : Hint := ⟨2, ⟨[], [], [], [], [], []⟩, [], [], [], []⟩
noncomputable def zXh : FnI := mkFn Tryz.f290 h290
def h291 : Hint := ⟨3, ⟨[], [], [], [], [], []⟩, [], [], [], []⟩
noncomputable def zXi : FnI := mkFn Tryz.f291 h291
def h292 : Hint := ⟨2, ⟨[], [], [], [], [], []⟩, [], [], [], []⟩
noncomputable def zXj : FnI := mkFn Tryz.f292 h292
def h293 : Hint := ⟨2, ⟨[], [], [], [], [], []⟩, [], [], [], []⟩
noncomputable def zXk : FnI := mkFn Tryz.f293 h293
def h294 : Hint := ⟨2, ⟨[], [], [], [], [], []⟩, [], [], [], [(5, [0, 1, 6, 7, 8])]⟩
noncomputable def zUZ : FnI := mkFn Tryz.f294 h294
def h295 : Hint := ⟨2, ⟨[], [], [], [], [], []⟩, [], [], [], []⟩
noncomputable def zY4 : FnI := mkFn Tryz.f295 h295
def h296 : Hint := ⟨1, ⟨[], [], [], [], [], []⟩, [], [], [], []⟩
noncomputable def zXl : FnI := mkFn Tryz.f296 h296
def h297 : Hint := ⟨2, ⟨[], [], [], [], [], []⟩, [], [], [], [(3, [0, 1])]⟩
noncomputable def zU0 : FnI := mkFn Tryz.f297 h297
def h298 : Hint := ⟨4, ⟨[], [], [], [], [], []⟩, [], [], [], []⟩
noncomputable def zXm : FnI := mkFn Tryz.f298 h298
def h299 : Hint := ⟨1, ⟨[], [], [], [], [], []⟩, [], [], [], []⟩
noncomputable def zXn : FnI := mkFn Tryz.f299 h299
noncomputable def tab : List (Nat × FnI) := [(7, fi7), (16, fi16), (18, fi18), (19, fi19), (20, fi20), (21, fi21), (22, fi22), (23, fi23), (25, fi25), (28, fi28), (29, fi29), (32, fi32), (35, fi35), (36, fi36), (38, fi38), (39, fi39), (40, fi40), (41, fi41), (42, fi42), (46, fi46), (50, fi50), (52, fi52), (53, fi53), (54, fi54), (59, fi59), (60, fi60), (61, fi61), (62, fi62), (63, fi63), (64, fi64), (65, fi65), (66, fi66), (67, fi67), (68, fi68), (69, fi69), (70, fi70), (71, fi71), (72, fi72), (73, fi73), (74, fi74), (77, fi77), (78, fi78), (79, fi79), (80, fi80), (81, fi81), (83, fi83), (93, fi93), (96, fi96), (97, fi97), (98, fi98), (99, fi99), (100, zWv), (101, zWw), (102, zUP), (103, zWx), (104, zWy), (105, zWz), (106, zXA), (113, zXB), (114, zXC), (115, zXD), (125, zN6), (126, zLH), (128, zXE), (129, zUQ), (130, zQw), (131, zQx), (132, zXF), (133, zXG), (134, zXH), (135, zUR), (136, zXI), (137, zOu), (138, zXJ), (139, zY2), (140, zY3), (141, zXK), (145, zXL), (156, zXM), (164, zXN), (165, zUS), (166, zXO), (167, zUT), (168, zXP), (169, zXQ), (174, zXR), (175, zUU), (179, zXS), (183, zXT), (184, zUV), (185, zUW), (186, zUX), (187, zXU), (188, zN7), (200, zXV), (201, zXW), (202, zXX), (204, zXY), (209, zUY), (210, zQy), (215, zXZ), (217, zX0), (218, zX1), (222, zQz), (223, zX2), (246, zX3), (248, zX4), (254, zX5), (255, zX6), (256, zX7), (257, zX8), (258, zX9), (259, zXa), (260, zXb), (261, zXc), (262, zXd), (263, zXe), (264, zXf), (265, zXg), (290, zXh), (291, zXi), (292, zXj), (293, zXk), (294, zUZ), (295, zY4), (296, zXl), (297, zU0), (298, zXm), (299, zXn)]
noncomputable def etab : List (Nat × ExtF) := [(96, zDH 0), (166, zDH 3), (53, zHF), (61, (zMR [62, 81])), (139, zIb), (140, zDB), (295, zFG), (203, zJi)]
noncomputable def cfg : Cfg := ⟨ty, zUH tab, zUJ etab⟩
instance gl0 : Gl := Gl.triv
theorem zWD : zSe cfg fi96 0 := fun call xs => ⟨by kernel_rfl, by kernel_rfl, by kernel_rfl, by kernel_rfl⟩
theorem zU1 : zSe cfg zXO 3 := fun call xs => ⟨by kernel_rfl, by kernel_rfl, by kernel_rfl, by kernel_rfl⟩
theorem tys : tysB Tryz.prog cfg = true := by kernel_rfl
theorem fns : AllF Tryz.prog cfg tab := ⟨zC Tryz.func7 (by kernel_rfl), zVt (r := 4) Tryz.func16 rfl (by kernel_rfl), zC Tryz.func18 (by kernel_rfl), zC Tryz.func19 (by kernel_rfl), zC Tryz.func20 (by kernel_rfl), zC Tryz.func21 (by kernel_rfl), zC Tryz.func22 (by kernel_rfl), zC Tryz.func23 (by kernel_rfl), zC Tryz.func25 (by kernel_rfl), zC Tryz.func28 (by kernel_rfl), zC Tryz.func29 (by kernel_rfl), zC Tryz.func32 (by kernel_rfl), zC Tryz.func35 (by kernel_rfl), zC Tryz.func36 (by kernel_rfl), zC Tryz.func38 (by kernel_rfl), zC Tryz.func39 (by kernel_rfl), zC Tryz.func40 (by kernel_rfl), zC Tryz.func41 (by kernel_rfl), zC Tryz.func42 (by kernel_rfl), zC Tryz.func46 (by kernel_rfl), zC Tryz.func50 (by kernel_rfl), zC Tryz.func52 (by kernel_rfl), zC Tryz.func53 (by kernel_rfl), zC Tryz.func54 (by kernel_rfl), zC Tryz.func59 (by kernel_rfl), zC Tryz.func60 (by kernel_rfl), zC Tryz.func61 (by kernel_rfl), zC Tryz.func62 (by kernel_rfl), zC Tryz.func63 (by kernel_rfl), zC Tryz.func64 (by kernel_rfl), zC Tryz.func65 (by kernel_rfl), zC Tryz.func66 (by kernel_rfl), zC Tryz.func67 (by kernel_rfl), zC Tryz.func68 (by kernel_rfl), zC Tryz.func69 (by kernel_rfl), zC Tryz.func70 (by kernel_rfl), zC Tryz.func71 (by kernel_rfl), zC Tryz.func72 (by kernel_rfl), zC Tryz.func73 (by kernel_rfl), zC Tryz.func74 (by kernel_rfl), zC Tryz.func77 (by kernel_rfl), zC Tryz.func78 (by kernel_rfl), zC Tryz.func79 (by kernel_rfl), zC Tryz.func80 (by kernel_rfl), zC Tryz.func81 (by kernel_rfl), zC Tryz.func83 (by kernel_rfl), zC Tryz.func93 (by kernel_rfl), zC Tryz.func96 (by kernel_rfl), zC Tryz.func97 (by kernel_rfl), zC Tryz.func98 (by kernel_rfl), zC Tryz.func99 (by kernel_rfl), zC Tryz.func100 (by kernel_rfl), zC Tryz.func101 (by kernel_rfl), zC Tryz.func102 (by kernel_rfl), zC Tryz.func103 (by kernel_rfl), zC Tryz.func104 (by kernel_rfl), zC Tryz.func105 (by kernel_rfl), zC Tryz.func106 (by kernel_rfl), zC Tryz.func113 (by kernel_rfl), zC Tryz.func114 (by kernel_rfl), zC Tryz.func115 (by kernel_rfl), zC Tryz.func125 (by kernel_rfl), zC Tryz.func126 (by kernel_rfl), zC Tryz.func128 (by kernel_rfl), zC Tryz.func129 (by kernel_rfl), zC Tryz.func130 (by kernel_rfl), zC Tryz.func131 (by kernel_rfl), zC Tryz.func132 (by kernel_rfl), zC Tryz.func133 (by kernel_rfl), zC Tryz.func134 (by kernel_rfl), zC Tryz.func135 (by kernel_rfl), zC Tryz.func136 (by kernel_rfl), zC Tryz.func137 (by kernel_rfl), zC Tryz.func138 (by kernel_rfl), zC Tryz.func139 (by kernel_rfl), zC Tryz.func140 (by kernel_rfl), zC Tryz.func141 (by kernel_rfl), zC Tryz.func145 (by kernel_rfl), zC Tryz.func156 (by kernel_rfl), zC Tryz.func164 (by kernel_rfl), zC Tryz.func165 (by kernel_rfl), zC Tryz.func166 (by kernel_rfl), zC Tryz.func167 (by kernel_rfl), zC Tryz.func168 (by kernel_rfl), zC Tryz.func169 (by kernel_rfl), zC Tryz.func174 (by kernel_rfl), zC Tryz.func175 (by kernel_rfl), zC Tryz.func179 (by kernel_rfl), zC Tryz.func183 (by kernel_rfl), zC Tryz.func184 (by kernel_rfl), zC Tryz.func185 (by kernel_rfl), zC Tryz.func186 (by kernel_rfl), zC Tryz.func187 (by kernel_rfl), zC Tryz.func188 (by kernel_rfl), zC Tryz.func200 (by kernel_rfl), zC Tryz.func201 (by kernel_rfl), zC Tryz.func202 (by kernel_rfl), zC Tryz.func204 (by kernel_rfl), zC Tryz.func209 (by kernel_rfl), zC Tryz.func210 (by kernel_rfl), zC Tryz.func215 (by kernel_rfl), zC Tryz.func217 (by kernel_rfl), zC Tryz.func218 (by kernel_rfl), zC Tryz.func222 (by kernel_rfl), zC Tryz.func223 (by kernel_rfl), zC Tryz.func246 (by kernel_rfl), zC Tryz.func248 (by kernel_rfl), zC Tryz.func254 (by kernel_rfl), zC Tryz.func255 (by kernel_rfl), zC Tryz.func256 (by kernel_rfl), zC Tryz.func257 (by kernel_rfl), zC Tryz.func258 (by kernel_rfl), zC Tryz.func259 (by kernel_rfl), zC Tryz.func260 (by kernel_rfl), zC Tryz.func261 (by kernel_rfl), zC Tryz.func262 (by kernel_rfl), zC Tryz.func263 (by kernel_rfl), zC Tryz.func264 (by kernel_rfl), zC Tryz.func265 (by kernel_rfl), zC Tryz.func290 (by kernel_rfl), zC Tryz.func291 (by kernel_rfl), zC Tryz.func292 (by kernel_rfl), zC Tryz.func293 (by kernel_rfl), zC Tryz.func294 (by kernel_rfl), zC Tryz.func295 (by kernel_rfl), zC Tryz.func296 (by kernel_rfl), zC Tryz.func297 (by kernel_rfl), zC Tryz.func298 (by kernel_rfl), zC Tryz.func299 (by kernel_rfl), trivial⟩
theorem exts [GL : Gl] (hG : ∃ g t fr, Tryz.prog.globalNamed "internal/strconv.uint64pow10" = some g ∧ GL.tab g (.cells (Lib.pow10Tab.map fun z => Value.int .u64 z).toArray t fr)) : ∀ f g, cfg.ext f = some g → zK5 Tryz.prog f g := zN2 (tab := etab) ⟨zPy (zFF tys) (zC Tryz.func96 (by kernel_rfl)) zWD, zPy (zFF tys) (zC Tryz.func166 (by kernel_rfl)) zU1, zWB ⟨⟨Tryz.f53, Tryz.func53, by kernel_rfl, by kernel_rfl⟩, fun b c xs w h1 h2 h3 h4 h5 => Tryz.text b c xs w h1 h2 h3 h4 h5⟩ hG, zWC Tryz.toldC, zVz ⟨⟨Tryz.f139, Tryz.func139, by kernel_rfl, by kernel_rfl⟩, fun b o c z w h1 h2 h3 => Tryz.slices_Sort_int b o c z w h1 h2 h3, fun p c w => Tryz.slices_Sort_int_none p c w⟩, zQv ⟨⟨Tryz.f140, Tryz.func140, by kernel_rfl, by kernel_rfl⟩, fun b o c z w h1 h2 h3 => Tryz.slices_Compact_int b o c z w h1 h2 h3, fun p c w => Tryz.slices_Compact_int_empty p c w⟩, zUK ⟨⟨Tryz.f295, Tryz.func295, by kernel_rfl, by kernel_rfl⟩, fun x y h1 h2 w => Tryz.bits_Mul64 x y h1 h2 w⟩, zUL (fun x y c h1 h2 h3 h4 w => by rw [run_callFunc_extern Tryz.func203 (by kernel_rfl) (by kernel_rfl) (by kernel_rfl) (e := Go.add64Entry) (by kernel_rfl), Go.run_add64 x y c h1 h2 h3 h4 w]; rfl), trivial⟩
theorem zN8 : cfg.ext 96 = some (zDH 0) := by kernel_rfl
theorem zRA : cfg.ext 166 = some (zDH 3) := by kernel_rfl
theorem zSo : cfg.ext 53 = some zHF := by kernel_rfl
theorem zSp : cfg.ext 61 = some (zMR [62, 81]) := by kernel_rfl
theorem zRB : cfg.ext 139 = some zIb := by kernel_rfl
theorem zRC : cfg.ext 140 = some zDB := by kernel_rfl
theorem zRD : cfg.ext 295 = some zFG := by kernel_rfl
end Go.Cf

namespace Go.Cf
open Go Go.Ab
set_option linter.unusedVariables false
set_option maxRecDepth 100000
def zAt : Nat := 7
def zDh : Nat := 16
def zDM : Nat := 18
def zAu : Nat := 19
def zBr : Nat := 20
def zHG : Nat := 22
def zBG : Nat := 25
def zDi : Nat := 28
def zAY : Nat := 29
def zAh : Nat := 38
def zIc : Nat := 39
def zHH : Nat := 40
def zDz : Nat := 41
def zDC : Nat := 42
def zFH : Nat := 50
def zBh : Nat := 52
def zG2 : Nat := 53
def zA0 : Nat := 54
def zEA : Nat := 59
def zEB : Nat := 60
def zFs : Nat := 61
def zHk : Nat := 62
def zEY : Nat := 63
def zKf : Nat := 64
def zHI : Nat := 65
def zFI : Nat := 66
def zG3 : Nat := 67
def zAO : Nat := 68
def zHJ : Nat := 69
def zFJ : Nat := 70
def zFK : Nat := 71
def zBf : Nat := 72
def zFt : Nat := 73
def zA9 : Nat := 74
def zId : Nat := 77
def zF : Nat := 78
def zG4 : Nat := 79
def zHK : Nat := 80
def zBO : Nat := 81
def zCZ : Nat := 83
def zA1 : Nat := 96
def zEZ : Nat := 97
def zAS : Nat := 98
def zEC : Nat := 99
def zEn : Nat := 100
def zI : Nat := 101
def zIe : Nat := 102
def zE0 : Nat := 103
def zX : Nat := 104
def zDI : Nat := 105
def zFu : Nat := 106
def zAl : Nat := 113
def zIf : Nat := 114
def zT : Nat := 115
def zAv : Nat := 125
def zCV : Nat := 126
def zCh : Nat := 128
def zEo : Nat := 129
def zBa : Nat := 130
def zA5 : Nat := 131
def zAF : Nat := 132
def zE1 : Nat := 133
def zIg : Nat := 134
def zBB : Nat := 135
def zG5 : Nat := 136
def zBs : Nat := 137
def zBH : Nat := 138
def zBt : Nat := 139
def zBX : Nat := 140
def zDV : Nat := 141
def zCB : Nat := 145
def zDJ : Nat := 156
def zG6 : Nat := 164
def zY : Nat := 165
def zB6 : Nat := 166
def zAI : Nat := 167
def zEp : Nat := 168
def zHL : Nat := 169
def zE2 : Nat := 174
def zAb : Nat := 175
def zJj : Nat := 179
def zCW : Nat := 183
def zBu : Nat := 184
def zAi : Nat := 185
def zAV : Nat := 186
def zB7 : Nat := 187
def zHM : Nat := 188
def zBI : Nat := 200
def zG7 : Nat := 201
def zFv : Nat := 202
def zIh : Nat := 204
def zIi : Nat := 209
def zFL : Nat := 210
def zIj : Nat := 215
def zED : Nat := 217
def zHl : Nat := 218
def zBT : Nat := 222
def zFM : Nat := 223
def zC0 : Nat := 246
def zFw : Nat := 248
def zC1 : Nat := 254
def zHm : Nat := 255
def zHn : Nat := 256
def zHo : Nat := 257
def zHp : Nat := 258
def zJk : Nat := 259
def zD4 : Nat := 260
def zKg : Nat := 261
def zD5 : Nat := 262
def zMS : Nat := 263
def zD6 : Nat := 264
def zKh : Nat := 265
def zAp : Nat := 290
def zC2 : Nat := 291
def zHN : Nat := 292
def zHO : Nat := 293
def zFN : Nat := 294
def zJL : Nat := 295
def zG8 : Nat := 296
def zHP : Nat := 297
def zFO : Nat := 298
def zD7 : Nat := 299
def zKi : Nat := 3
def zOv : Nat := 22
def zSq : Nat := 24
def zKj : Nat := 25
def zRE : Nat := 27
def zMT : Nat := 28
def zFx : Nat := 29
def zOw : Nat := 31
def zHq : Nat := 38
def zKk : Nat := 46
def zBg : Nat := 48
def zKl : Nat := 54
def zN9 : Nat := 56
def zEq : Nat := 58
def zNa : Nat := 141
theorem exW : ∃ W : Wf, W = evw cfg := ⟨_, rfl⟩
noncomputable def W : Wf := Classical.choose exW
theorem W_eq : W = evw cfg := Classical.choose_spec exW
theorem exT (fi : FnI) {R : Type} (fin : Ex → St → Option R) : ∃ jl : Jn R × Ln R, Tied cfg W fi fin jl.1 jl.2 := ⟨(_, _), tied cfg W fi fin⟩
noncomputable def jN_ (x : FnI) : Jn PV := (Classical.choose (exT x (fin cfg x))).1
noncomputable def lN_ (x : FnI) : Ln PV := (Classical.choose (exT x (fin cfg x))).2
theorem tN_ (x : FnI) : Tied cfg W x (fin cfg x) (jN_ x) (lN_ x) := Classical.choose_spec (exT x (fin cfg x))
noncomputable def jO_ (x : FnI) (b : Bool) (n : Nat) : Jn (AV × List Ob) := (Classical.choose (exT x (finO cfg x b n))).1
noncomputable def lO_ (x : FnI) (b : Bool) (n : Nat) : Ln (AV × List Ob) := (Classical.choose (exT x (finO cfg x b n))).2
theorem tO_ (x : FnI) (b : Bool) (n : Nat) : Tied cfg W x (finO cfg x b n) (jO_ x b n) (lO_ x b n) := Classical.choose_spec (exT x (finO cfg x b n))
theorem wq {f : FuncId} {fi : FnI} (he : cfg.ext f = none) (hf : cfg.fn f = some fi) (args : List PV) : wc W f args = body cfg W lpw fi args := by rw [W_eq]; exact zWp he hf args
theorem wqO {f : FuncId} {fi : FnI} (he : cfg.ext f = none) (hf : cfg.fn f = some fi) (raw : Bool) (args : List AV) (ow : List Ob) : W f raw args ow = bodyO cfg W lpw fi raw args ow := by rw [W_eq]; exact zOp he hf raw args ow
theorem go {f : FuncId} {fi : FnI} {args : List PV} {r : Option PV} {jn : Jn PV} {ln : Ln PV} (he : cfg.ext f = none) (hf : cfg.fn f = some fi) (h : Tied cfg W fi (fin cfg fi) jn ln) (e : (bif args.length == fi.np then Gf cfg W fi jn ln fi.code [] ⟨zQ4 0 args, []⟩ (fin cfg fi) else none) = r) : wc W f args = r := (wq he hf args).trans ((h.body args).trans e)
theorem goO {f : FuncId} {fi : FnI} {raw : Bool} {n : Nat} {args : List AV} {ow : List Ob} {r : Option (AV × List Ob)} {jn : Jn (AV × List Ob)} {ln : Ln (AV × List Ob)} (he : cfg.ext f = none) (hf : cfg.fn f = some fi) (h : Tied cfg W fi (finO cfg fi raw n) jn ln) (hn : ow.length = n) (e : (bif args.length == fi.np then Gf cfg W fi jn ln fi.code [] ⟨zFY 0 args, ow⟩ (finO cfg fi raw n) else none) = r) : W f raw args ow = r := (wqO he hf raw args ow).trans ((h.bodyO args ow hn).trans e)
def c_b {R : Type} (p : PV) (K : Bool → Option R) : Option R := (PV.asBool p).bind fun zzx0 => K zzx0
@[simp] theorem c_b_mk (zzx0 : Bool) {R : Type} (K : Bool → Option R) : c_b (PV.bool zzx0) K = K zzx0 := rfl
def zD {R : Type} (p : PV) (K : Int → Int → Option R) : Option R := (PV.asAgg p).bind fun c0 => (c0[0]?).bind fun p1 => (PV.asIntK .i64 p1).bind fun zzx2 => (c0[1]?).bind fun p3 => (PV.asIntK .i64 p3).bind fun zzx4 => bif c0.length == 2 then (K zzx2 zzx4) else none
@[simp] theorem c_g_i64_i64_mk (zzx2 : Int) (zzx4 : Int) {R : Type} (K : Int → Int → Option R) : zD (PV.agg [(PV.int .i64 zzx2), (PV.int .i64 zzx4)]) K = K zzx2 zzx4 := rfl
def zG {R : Type} (p : PV) (K : Int → Int → Int → Int → List PV → Option R) : Option R := (PV.asAgg p).bind fun c0 => (c0[0]?).bind fun p1 => (PV.asIntK .i64 p1).bind fun zzx2 => (c0[1]?).bind fun p3 => (PV.asIntK .i64 p3).bind fun zzx4 => (c0[2]?).bind fun p5 => (PV.asIntK .i64 p5).bind fun zzx6 => (c0[3]?).bind fun p7 => (PV.asIntK .i64 p7).bind fun zzx8 => (c0[4]?).bind fun p9 => (PV.asSlice 6 p9).bind fun zzx10 => bif c0.length == 5 then (K zzx2 zzx4 zzx6 zzx8 zzx10) else none
@[simp] theorem c_g_i64_i64_i64_i64_s6_mk (zzx2 : Int) (zzx4 : Int) (zzx6 : Int) (zzx8 : Int) (zzx10 : List PV) {R : Type} (K : Int → Int → Int → Int → List PV → Option R) : zG (PV.agg [(PV.int .i64 zzx2), (PV.int .i64 zzx4), (PV.int .i64 zzx6), (PV.int .i64 zzx8), (PV.slice 6 zzx10)]) K = K zzx2 zzx4 zzx6 zzx8 zzx10 := rfl
def zAm {R : Type} (p : PV) (K : Int → Int → PV → Option R) : Option R := (PV.asAgg p).bind fun c0 => (c0[0]?).bind fun p1 => (PV.asIntK .i64 p1).bind fun zzx2 => (c0[1]?).bind fun p3 => (PV.asIntK .i64 p3).bind fun zzx4 => (c0[2]?).bind fun p5 => (some p5).bind fun zzx6 => bif c0.length == 3 then (K zzx2 zzx4 zzx6) else none
@[simp] theorem c_g_i64_i64_p_mk (zzx2 : Int) (zzx4 : Int) (zzx6 : PV) {R : Type} (K : Int → Int → PV → Option R) : zAm (PV.agg [(PV.int .i64 zzx2), (PV.int .i64 zzx4), zzx6]) K = K zzx2 zzx4 zzx6 := rfl
def zAB {R : Type} (p : PV) (K : Int → List PV → Option R) : Option R := (PV.asAgg p).bind fun c0 => (c0[0]?).bind fun p1 => (PV.asIntK .i64 p1).bind fun zzx2 => (c0[1]?).bind fun p3 => (PV.asSlice 3 p3).bind fun zzx4 => bif c0.length == 2 then (K zzx2 zzx4) else none
@[simp] theorem c_g_i64_s3_mk (zzx2 : Int) (zzx4 : List PV) {R : Type} (K : Int → List PV → Option R) : zAB (PV.agg [(PV.int .i64 zzx2), (PV.slice 3 zzx4)]) K = K zzx2 zzx4 := rfl
def zVQ {R : Type} (p : PV) (K : List PV → Option R) : Option R := (PV.asAgg p).bind fun c0 => (c0[0]?).bind fun p1 => (PV.asSlice 0 p1).bind fun zzx2 => bif c0.length == 1 then (K zzx2) else none
@[simp] theorem c_g_s0_mk (zzx2 : List PV) {R : Type} (K : List PV → Option R) : zVQ (PV.agg [(PV.slice 0 zzx2)]) K = K zzx2 := rfl
def zAJ {R : Type} (p : PV) (K : List PV → List PV → Option R) : Option R := (PV.asAgg p).bind fun c0 => (c0[0]?).bind fun p1 => (PV.asSlice 0 p1).bind fun zzx2 => (c0[1]?).bind fun p3 => (PV.asSlice 0 p3).bind fun zzx4 => bif c0.length == 2 then (K zzx2 zzx4) else none
@[simp] theorem c_g_s0_s0_mk (zzx2 : List PV) (zzx4 : List PV) {R : Type} (K : List PV → List PV → Option R) : zAJ (PV.agg [(PV.slice 0 zzx2), (PV.slice 0 zzx4)]) K = K zzx2 zzx4 := rfl
def zVR {R : Type} (p : PV) (K : List PV → Option R) : Option R := (PV.asAgg p).bind fun c0 => (c0[0]?).bind fun p1 => (PV.asSlice 3 p1).bind fun zzx2 => bif c0.length == 1 then (K zzx2) else none
@[simp] theorem c_g_s3_mk (zzx2 : List PV) {R : Type} (K : List PV → Option R) : zVR (PV.agg [(PV.slice 3 zzx2)]) K = K zzx2 := rfl
def zA6 {R : Type} (p : PV) (K : Int → Option R) : Option R := (PV.asIntK .i64 p).bind fun zzx0 => K zzx0
@[simp] theorem c_i64_mk (zzx0 : Int) {R : Type} (K : Int → Option R) : zA6 (PV.int .i64 zzx0) K = K zzx0 := rfl
def c_s0 {R : Type} (p : PV) (K : List PV → Option R) : Option R := (PV.asSlice 0 p).bind fun zzx0 => K zzx0
@[simp] theorem c_s0_mk (zzx0 : List PV) {R : Type} (K : List PV → Option R) : c_s0 (PV.slice 0 zzx0) K = K zzx0 := rfl
def c_s3 {R : Type} (p : PV) (K : List PV → Option R) : Option R := (PV.asSlice 3 p).bind fun zzx0 => K zzx0
@[simp] theorem c_s3_mk (zzx0 : List PV) {R : Type} (K : List PV → Option R) : c_s3 (PV.slice 3 zzx0) K = K zzx0 := rfl
def c_s6 {R : Type} (p : PV) (K : List PV → Option R) : Option R := (PV.asSlice 6 p).bind fun zzx0 => K zzx0
@[simp] theorem c_s6_mk (zzx0 : List PV) {R : Type} (K : List PV → Option R) : c_s6 (PV.slice 6 zzx0) K = K zzx0 := rfl
def c_t {R : Type} (p : PV) (K : ByteArray → Option R) : Option R := (PV.asStr p).bind fun zzx0 => K zzx0
@[simp] theorem c_t_mk (zzx0 : ByteArray) {R : Type} (K : ByteArray → Option R) : c_t (PV.str zzx0) K = K zzx0 := rfl
def zSr {R : Type} (p : PV) (K : Int → Option R) : Option R := (PV.asIntK .u64 p).bind fun zzx0 => K zzx0
@[simp] theorem c_u64_mk (zzx0 : Int) {R : Type} (K : Int → Option R) : zSr (PV.int IntKind.u64 zzx0) K = K zzx0 := rfl
def zMU {R : Type} (z : AV × List Ob) (K : PV → Int → Int → Int → Option R) : Option R := (AV.asPv z.1).bind fun q0 => (some q0).bind fun zzx1 => (z.2[0]?).bind fun p2 => (Ob.asVar false 0 p2).bind fun a3 => (AV.asPv a3).bind fun q4 => (PV.asIntK .i64 q4).bind fun zzx5 => (z.2[1]?).bind fun p6 => (Ob.asVar false 0 p6).bind fun a7 => (AV.asPv a7).bind fun q8 => (PV.asIntK .i64 q8).bind fun zzx9 => (z.2[2]?).bind fun p10 => (Ob.asVar false 0 p10).bind fun a11 => (AV.asPv a11).bind fun q12 => (PV.asIntK .i64 q12).bind fun zzx13 => bif z.2.length == 3 then (K zzx1 zzx5 zzx9 zzx13) else none
@[simp] theorem k_10961c_mk (zzx1 : PV) (zzx5 : Int) (zzx9 : Int) (zzx13 : Int) {R : Type} (K : PV → Int → Int → Int → Option R) : zMU ((AV.pv zzx1), [(Ob.var false 0 (AV.pv (PV.int .i64 zzx5))), (Ob.var false 0 (AV.pv (PV.int .i64 zzx9))), (Ob.var false 0 (AV.pv (PV.int .i64 zzx13)))]) K = K zzx1 zzx5 zzx9 zzx13 := rfl
def zFP {R : Type} (z : AV × List Ob) (K : PV → Int → Option R) : Option R := (AV.asPv z.1).bind fun q0 => (some q0).bind fun zzx1 => (z.2[0]?).bind fun p2 => (Ob.asVar false 0 p2).bind fun a3 => (AV.asPv a3).bind fun q4 => (PV.asIntK .i64 q4).bind fun zzx5 => bif z.2.length == 1 then (K zzx1 zzx5) else none
@[simp] theorem k_5b106d_mk (zzx1 : PV) (zzx5 : Int) {R : Type} (K : PV → Int → Option R) : zFP ((AV.pv zzx1), [(Ob.var false 0 (AV.pv (PV.int .i64 zzx5)))]) K = K zzx1 zzx5 := rfl
def zQC {R : Type} (z : AV × List Ob) (K : List PV → Option R) : Option R := bif AV.isView 0 z.1 then ((z.2[0]?).bind fun p0 => (Ob.asRow false 0 3 p0).bind fun zzx1 => bif z.2.length == 1 then (K zzx1) else none) else none
@[simp] theorem k_83ed81_mk (zzx1 : List PV) {R : Type} (K : List PV → Option R) : zQC ((AV.view 0 0 none), [(Ob.row false 0 (3 : Nat) zzx1)]) K = K zzx1 := rfl
def zG9 {R : Type} (z : AV × List Ob) (K : PV → List PV → List PV → List PV → List PV → Int → List PV → List PV → Int → Option R) : Option R := (AV.asPv z.1).bind fun q0 => (some q0).bind fun zzx1 => (z.2[0]?).bind fun p2 => (Ob.asVar false 0 p2).bind fun a3 => (AV.asFnv zF a3).bind fun y4 => bif y4.1.length == 0 then ((y4.2[0]?).bind fun p5 => (AV.asPv p5).bind fun q6 => (PV.asImm 2 0 q6).bind fun v7 => (PV.asAgg v7).bind fun c8 => (c8[0]?).bind fun p9 => (PV.asSlice 3 p9).bind fun zzx10 => bif c8.length == 1 then ((y4.2[1]?).bind fun p11 => (AV.asPv p11).bind fun q12 => (PV.asImm 2 0 q12).bind fun v13 => (PV.asAgg v13).bind fun c14 => (c14[0]?).bind fun p15 => (PV.asSlice 0 p15).bind fun zzx16 => bif c14.length == 1 then ((y4.2[2]?).bind fun p17 => (AV.asPv p17).bind fun q18 => (PV.asImm 7 0 q18).bind fun v19 => (PV.asAgg v19).bind fun c20 => (c20[0]?).bind fun p21 => (PV.asSlice 0 p21).bind fun zzx22 => (c20[1]?).bind fun p23 => (PV.asSlice 6 p23).bind fun zzx24 => (c20[2]?).bind fun p25 => (PV.asIntK .i64 p25).bind fun zzx26 => (c20[3]?).bind fun p27 => (PV.asSlice 0 p27).bind fun zzx28 => (c20[4]?).bind fun p29 => (PV.asSlice 0 p29).bind fun zzx30 => (c20[5]?).bind fun p31 => (PV.asIntK .i64 p31).bind fun zzx32 => bif c20.length == 6 then ((y4.2[3]?).bind fun p33 => bif AV.isOwn 0 0 p33 then (bif y4.2.length == 4 then (bif z.2.length == 1 then (K zzx1 zzx10 zzx16 zzx22 zzx24 zzx26 zzx28 zzx30 zzx32) else none) else none) else none) else none) else none) else none) else none
@[simp] theorem k_abad21_mk (zzx1 : PV) (zzx10 : List PV) (zzx16 : List PV) (zzx22 : List PV) (zzx24 : List PV) (zzx26 : Int) (zzx28 : List PV) (zzx30 : List PV) (zzx32 : Int) {R : Type} (K : PV → List PV → List PV → List PV → List PV → Int → List PV → List PV → Int → Option R) : zG9 ((AV.pv zzx1), [(Ob.var false 0 (AV.fnv zF [] [(AV.pv (PV.imm 2 (PV.agg [(PV.slice 3 zzx10)]) 0)), (AV.pv (PV.imm 2 (PV.agg [(PV.slice 0 zzx16)]) 0)), (AV.pv (PV.imm 7 (PV.agg [(PV.slice 0 zzx22), (PV.slice 6 zzx24), (PV.int .i64 zzx26), (PV.slice 0 zzx28), (PV.slice 0 zzx30), (PV.int .i64 zzx32)]) 0)), (AV.own (Prod.fst ((0 : Nat), (0 : Nat))) 0)]))]) K = K zzx1 zzx10 zzx16 zzx22 zzx24 zzx26 zzx28 zzx30 zzx32 := rfl
def zJl {R : Type} (z : AV × List Ob) (K : PV → List PV → Option R) : Option R := (AV.asPv z.1).bind fun q0 => (some q0).bind fun zzx1 => (z.2[0]?).bind fun p2 => (Ob.asVar false 0 p2).bind fun a3 => bif AV.isView 1 a3 then ((z.2[1]?).bind fun p4 => (Ob.asRow false 0 0 p4).bind fun zzx5 => bif z.2.length == 2 then (K zzx1 zzx5) else none) else none
@[simp] theorem k_b2223f_mk (zzx1 : PV) (zzx5 : List PV) {R : Type} (K : PV → List PV → Option R) : zJl ((AV.pv zzx1), [(Ob.var false 0 (AV.view 1 0 none)), (Ob.row false 0 0 zzx5)]) K = K zzx1 zzx5 := rfl
def zMV {R : Type} (z : AV × List Ob) (K : PV → Option R) : Option R := (AV.asPv z.1).bind fun q0 => (some q0).bind fun zzx1 => (z.2[0]?).bind fun p2 => bif Ob.isDead p2 then (bif z.2.length == 1 then (K zzx1) else none) else none
@[simp] theorem k_b7636c_mk (zzx1 : PV) {R : Type} (K : PV → Option R) : zMV ((AV.pv zzx1), [Ob.dead]) K = K zzx1 := rfl
def zMW {R : Type} (z : AV × List Ob) (K : PV → List PV → Option R) : Option R := (AV.asPv z.1).bind fun q0 => (some q0).bind fun zzx1 => (z.2[0]?).bind fun p2 => (Ob.asFix 0 0 p2).bind fun zzx3 => bif z.2.length == 1 then (K zzx1 zzx3) else none
@[simp] theorem k_cad770_mk (zzx1 : PV) (zzx3 : List PV) {R : Type} (K : PV → List PV → Option R) : zMW ((AV.pv zzx1), [(Ob.fix 0 0 zzx3)]) K = K zzx1 zzx3 := rfl
def zMX {R : Type} (z : AV × List Ob) (K : List PV → Option R) : Option R := bif AV.isView 0 z.1 then ((z.2[0]?).bind fun p0 => (Ob.asRow false 0 0 p0).bind fun zzx1 => bif z.2.length == 1 then (K zzx1) else none) else none
@[simp] theorem k_d697de_mk (zzx1 : List PV) {R : Type} (K : List PV → Option R) : zMX ((AV.view 0 0 none), [(Ob.row false 0 (0 : Nat) zzx1)]) K = K zzx1 := rfl
theorem zRF (xs : List PV) (l : List (Int × Int)) (hp : zJK xs = some l) (hl : xs.length ≤ 1000000) : wc W zG2 [.slice 3 xs] = some (.str (zUO l)) := by rw [W_eq]; exact zWt zSo xs l hp hl
theorem zNb (raw : List AV) (ow : List Ob) : W zFs false raw ow = zSm [zHk, zBO] W raw ow := by rw [W_eq]; exact zFq zSp false raw ow
theorem zCq (xs : List PV) (h : xs.length ≤ 4294967296) : wc W zA1 [PV.slice 0 xs] = some (PV.slice 0 xs) := by rw [W_eq]; exact zSf zN8 xs h
theorem zEN (xs : List PV) (h : xs.length ≤ 4294967296) : W zA1 true [.pv (.slice 0 xs)] [] = some (.view 0 0 none, [.row false 0 0 xs]) := by rw [W_eq]; exact zSg zN8 xs h
theorem zDN (raw : Bool) (ver : Nat) (zs : List Int) (hl : zs.length ≤ 4294967296) : W zBt raw [.fx 0 0] [.fix ver 0 (zs.map (.int .i64))] = some (.pv (.tup []), [.fix ver 0 ((zEc zs).map (.int .i64))]) := by rw [W_eq]; exact zWs zRB raw ver zs hl
theorem zC3 (ver : Nat) (zs : List Int) (hl : zs.length ≤ 4294967296) : W zBX false [.view 0 ver none] [.row false ver 0 (zs.map (.int .i64))] = some (.pv (.slice 0 ((Lib.compact zs).map (.int .i64))), [.dead]) := by rw [W_eq]; exact zSl zRC ver zs hl
theorem zDO (xs : List PV) (h : xs.length ≤ 4294967296) : wc W zB6 [PV.slice 3 xs] = some (PV.slice 3 xs) := by rw [W_eq]; exact zSf zRA xs h
theorem zNc (x y : Int) (h1 : 0 ≤ x) (h2 : x < 18446744073709551616) (h3 : 0 ≤ y) (h4 : y < 18446744073709551616) : wc W zJL [.int .u64 x, .int .u64 y] = some (.tup [.int .u64 ((x.toNat * y.toNat / 18446744073709551616 : Nat) : Int), .int .u64 ((x.toNat * y.toNat % 18446744073709551616 : Nat) : Int)]) := by rw [W_eq]; exact zVx zRD x y h1 h2 h3 h4
end Go.Cf

namespace Go.Cf
open Go Go.Ab
set_option linter.unusedVariables false
set_option maxRecDepth 100000
noncomputable def zBd (l13 l14 l15 l16 : List PV) (i17 : Int) (l18 l19 : List PV) (i20 i21 : Int) (l22 : List PV) (i23 : Int) (l24 : List PV) (i25 : Int) (l26 : List PV) : Option PV := (jN_ fi7) [1, 1, 1, 1] (St.mk [(6, AV.pv (PV.imm 2 (PV.agg [PV.slice 3 l13]) 0)), (7, AV.pv (PV.imm 2 (PV.agg [PV.slice 0 l14]) 0)), (8, AV.pv (PV.imm 7 (PV.agg [PV.slice 0 l15, PV.slice 6 l16, PV.int .i64 i17, PV.slice 0 l18, PV.slice 0 l19, PV.int .i64 i20]) 0)), (9, AV.pv (PV.imm 3 (PV.agg [PV.int .i64 i21, PV.slice 3 l22]) 0)), (10, AV.pv (PV.imm 3 (PV.agg [PV.int .i64 i23, PV.slice 3 l24]) 0)), (11, AV.pv (PV.imm 3 (PV.agg [PV.int .i64 i25, PV.slice 3 l26]) 0))] [])
noncomputable def zAj (l59 l60 l61 l62 : List PV) (i63 : Int) (l64 l65 : List PV) (i66 i67 : Int) (l68 : List PV) (i69 : Int) (l70 : List PV) (i71 : Int) (l72 l73 l74 l75 l76 l77 l78 : List PV) : Option PV := (jN_ fi7) [1, 1, 1, 1, 1, 1, 1, 1] (St.mk [(6, AV.pv (PV.imm 2 (PV.agg [PV.slice 3 l59]) 0)), (7, AV.pv (PV.imm 2 (PV.agg [PV.slice 0 l60]) 0)), (8, AV.pv (PV.imm 7 (PV.agg [PV.slice 0 l61, PV.slice 6 l62, PV.int .i64 i63, PV.slice 0 l64, PV.slice 0 l65, PV.int .i64 i66]) 0)), (9, AV.pv (PV.imm 3 (PV.agg [PV.int .i64 i67, PV.slice 3 l68]) 0)), (10, AV.pv (PV.imm 3 (PV.agg [PV.int .i64 i69, PV.slice 3 l70]) 0)), (11, AV.pv (PV.imm 3 (PV.agg [PV.int .i64 i71, PV.slice 3 l72]) 0))] [Ob.var false 3 (AV.pv (PV.agg [PV.slice 0 l73, PV.slice 0 l74])), Ob.var false 3 (AV.pv (PV.agg [PV.slice 0 l75, PV.slice 0 l76])), Ob.var false 3 (AV.pv (PV.agg [PV.slice 0 l77, PV.slice 0 l78]))])
noncomputable def zAk (l79 l80 l81 l82 : List PV) (i83 : Int) (l84 l85 : List PV) (i86 i87 : Int) (l88 : List PV) (i89 : Int) (l90 : List PV) (i91 : Int) (l92 l93 l94 l95 l96 : List PV) : Option PV := (jN_ fi7) [1, 1, 1, 1, 1, 1, 1, 1] (St.mk [(6, AV.pv (PV.imm 2 (PV.agg [PV.slice 3 l79]) 0)), (7, AV.pv (PV.imm 2 (PV.agg [PV.slice 0 l80]) 0)), (8, AV.pv (PV.imm 7 (PV.agg [PV.slice 0 l81, PV.slice 6 l82, PV.int .i64 i83, PV.slice 0 l84, PV.slice 0 l85, PV.int .i64 i86]) 0)), (9, AV.pv (PV.imm 3 (PV.agg [PV.int .i64 i87, PV.slice 3 l88]) 0)), (10, AV.pv (PV.imm 3 (PV.agg [PV.int .i64 i89, PV.slice 3 l90]) 0)), (11, AV.pv (PV.imm 3 (PV.agg [PV.int .i64 i91, PV.slice 3 l92]) 0))] [Ob.var false 3 (AV.pv (PV.agg [PV.slice 0 l93, PV.slice 0 l94])), Ob.var false 3 (AV.pv (PV.agg [PV.slice 0 l95, PV.slice 0 l96]))])
theorem zCn (l13 l14 l15 l16 : List PV) (i17 : Int) (l18 l19 : List PV) (i20 i21 : Int) (l22 : List PV) (i23 : Int) (l24 : List PV) (i25 : Int) (l26 : List PV) : zBd l13 l14 l15 l16 i17 l18 l19 i20 i21 l22 i23 l24 i25 l26 =
 (wc W zAh [PV.agg [PV.int .i64 i21, PV.slice 3 l22], PV.agg [PV.int .i64 i23, PV.slice 3 l24]]).bind fun v27 => zAB v27 fun v28 v29 => (wc W zBG [PV.agg [PV.slice 3 l13], PV.agg [PV.slice 0 l14], PV.agg [PV.slice 0 l15, PV.slice 6 l16, PV.int .i64 i17, PV.slice 0 l18, PV.slice 0 l19, PV.int .i64 i20], PV.agg [PV.int .i64 v28, PV.slice 3 v29]]).bind fun v30 => (PV.asTup v30).bind fun v31 => (v31[0]?).bind fun v32 => zAJ v32 fun v33 v34 => (PV.asTup v30).bind fun v35 => (v35[1]?).bind fun v36 => c_b v36 fun v37 => (wc W zAh [PV.agg [PV.int .i64 i23, PV.slice 3 l24], PV.agg [PV.int .i64 i21, PV.slice 3 l22]]).bind fun v38 => zAB v38 fun v39 v40 => (wc W zBG [PV.agg [PV.slice 3 l13], PV.agg [PV.slice 0 l14], PV.agg [PV.slice 0 l15, PV.slice 6 l16, PV.int .i64 i17, PV.slice 0 l18, PV.slice 0 l19, PV.int .i64 i20], PV.agg [PV.int .i64 v39, PV.slice 3 v40]]).bind fun v41 => (PV.asTup v41).bind fun v42 => (v42[0]?).bind fun v43 => zAJ v43 fun v44 v45 => (PV.asTup v41).bind fun v46 => (v46[1]?).bind fun v47 => c_b v47 fun v48 => bif !(v37 == v48) then some (PV.bool false) else bif v37 then (wc W zIc [PV.agg [PV.slice 0 v44, PV.slice 0 v45], PV.slice 0 v33]).bind fun v49 => (PV.asTup v49).bind fun v50 => (v50[0]?).bind fun v51 => zAJ v51 fun v52 v53 => (PV.asTup v49).bind fun v54 => (v54[1]?).bind fun v55 => c_b v55 fun v56 => bif !v56 then some (PV.bool false) else (wc W zDh [PV.agg [PV.slice 0 v52, PV.slice 0 v53], PV.agg [PV.slice 0 v33, PV.slice 0 v34]]).bind fun v57 => c_b v57 fun v58 => bif !v58 then some (PV.bool false) else zAj l13 l14 l15 l16 i17 l18 l19 i20 i21 l22 i23 l24 i25 l26 v33 v34 v44 v45 v52 v53 else zAk l13 l14 l15 l16 i17 l18 l19 i20 i21 l22 i23 l24 i25 l26 v33 v34 v44 v45 := ((tN_ fi7).join [1, 1, 1, 1] _).trans (by kernel_rfl)
theorem zCo (l59 l60 l61 l62 : List PV) (i63 : Int) (l64 l65 : List PV) (i66 i67 : Int) (l68 : List PV) (i69 : Int) (l70 : List PV) (i71 : Int) (l72 l73 l74 l75 l76 l77 l78 : List PV) : zAj l59 l60 l61 l62 i63 l64 l65 i66 i67 l68 i69 l70 i71 l72 l73 l74 l75 l76 l77 l78 =
 (wc W zAh [PV.agg [PV.int .i64 i67, PV.slice 3 l68], PV.agg [PV.int .i64 i69, PV.slice 3 l70]]).bind fun v97 => zAB v97 fun v98 v99 => (wc W zAh [PV.agg [PV.int .i64 v98, PV.slice 3 v99], PV.agg [PV.int .i64 i71, PV.slice 3 l72]]).bind fun v100 => zAB v100 fun v101 v102 => (wc W zBG [PV.agg [PV.slice 3 l59], PV.agg [PV.slice 0 l60], PV.agg [PV.slice 0 l61, PV.slice 6 l62, PV.int .i64 i63, PV.slice 0 l64, PV.slice 0 l65, PV.int .i64 i66], PV.agg [PV.int .i64 v101, PV.slice 3 v102]]).bind fun v103 => (PV.asTup v103).bind fun v104 => (v104[0]?).bind fun v105 => zAJ v105 fun v106 v107 => (PV.asTup v103).bind fun v108 => (v108[1]?).bind fun v109 => c_b v109 fun v110 => (wc W zAh [PV.agg [PV.int .i64 i69, PV.slice 3 l70], PV.agg [PV.int .i64 i71, PV.slice 3 l72]]).bind fun v111 => zAB v111 fun v112 v113 => (wc W zAh [PV.agg [PV.int .i64 i67, PV.slice 3 l68], PV.agg [PV.int .i64 v112, PV.slice 3 v113]]).bind fun v114 => zAB v114 fun v115 v116 => (wc W zBG [PV.agg [PV.slice 3 l59], PV.agg [PV.slice 0 l60], PV.agg [PV.slice 0 l61, PV.slice 6 l62, PV.int .i64 i63, PV.slice 0 l64, PV.slice 0 l65, PV.int .i64 i66], PV.agg [PV.int .i64 v115, PV.slice 3 v116]]).bind fun v117 => (PV.asTup v117).bind fun v118 => (v118[0]?).bind fun v119 => zAJ v119 fun v120 v121 => (PV.asTup v117).bind fun v122 => (v122[1]?).bind fun v123 => c_b v123 fun v124 => bif v110 == v124 then bif !v110 then some (PV.bool true) else (wc W zDh [PV.agg [PV.slice 0 v106, PV.slice 0 v107], PV.agg [PV.slice 0 v120, PV.slice 0 v121]]).bind fun v125 => c_b v125 fun v126 => some (PV.bool v126) else some (PV.bool false) := ((tN_ fi7).join [1, 1, 1, 1, 1, 1, 1, 1] _).trans (by kernel_rfl)
theorem zCp (l79 l80 l81 l82 : List PV) (i83 : Int) (l84 l85 : List PV) (i86 i87 : Int) (l88 : List PV) (i89 : Int) (l90 : List PV) (i91 : Int) (l92 l93 l94 l95 l96 : List PV) : zAk l79 l80 l81 l82 i83 l84 l85 i86 i87 l88 i89 l90 i91 l92 l93 l94 l95 l96 =
 (wc W zAh [PV.agg [PV.int .i64 i87, PV.slice 3 l88], PV.agg [PV.int .i64 i89, PV.slice 3 l90]]).bind fun v127 => zAB v127 fun v128 v129 => (wc W zAh [PV.agg [PV.int .i64 v128, PV.slice 3 v129], PV.agg [PV.int .i64 i91, PV.slice 3 l92]]).bind fun v130 => zAB v130 fun v131 v132 => (wc W zBG [PV.agg [PV.slice 3 l79], PV.agg [PV.slice 0 l80], PV.agg [PV.slice 0 l81, PV.slice 6 l82, PV.int .i64 i83, PV.slice 0 l84, PV.slice 0 l85, PV.int .i64 i86], PV.agg [PV.int .i64 v131, PV.slice 3 v132]]).bind fun v133 => (PV.asTup v133).bind fun v134 => (v134[0]?).bind fun v135 => zAJ v135 fun v136 v137 => (PV.asTup v133).bind fun v138 => (v138[1]?).bind fun v139 => c_b v139 fun v140 => (wc W zAh [PV.agg [PV.int .i64 i89, PV.slice 3 l90], PV.agg [PV.int .i64 i91, PV.slice 3 l92]]).bind fun v141 => zAB v141 fun v142 v143 => (wc W zAh [PV.agg [PV.int .i64 i87, PV.slice 3 l88], PV.agg [PV.int .i64 v142, PV.slice 3 v143]]).bind fun v144 => zAB v144 fun v145 v146 => (wc W zBG [PV.agg [PV.slice 3 l79], PV.agg [PV.slice 0 l80], PV.agg [PV.slice 0 l81, PV.slice 6 l82, PV.int .i64 i83, PV.slice 0 l84, PV.slice 0 l85, PV.int .i64 i86], PV.agg [PV.int .i64 v145, PV.slice 3 v146]]).bind fun v147 => (PV.asTup v147).bind fun v148 => (v148[0]?).bind fun v149 => zAJ v149 fun v150 v151 => (PV.asTup v147).bind fun v152 => (v152[1]?).bind fun v153 => c_b v153 fun v154 => bif v140 == v154 then bif !v140 then some (PV.bool true) else (wc W zDh [PV.agg [PV.slice 0 v136, PV.slice 0 v137], PV.agg [PV.slice 0 v150, PV.slice 0 v151]]).bind fun v155 => c_b v155 fun v156 => some (PV.bool v156) else some (PV.bool false) := ((tN_ fi7).join [1, 1, 1, 1, 1, 1, 1, 1] _).trans (by kernel_rfl)
theorem zEE (a0_0 a1_0 a2_0 a2_1 : List PV) (a2_2 : Int) (a2_3 a2_4 : List PV) (a2_5 a3_0 : Int) (a3_1 : List PV) (a4_0 : Int) (a4_1 : List PV) (a5_0 : Int) (a5_1 : List PV) : wc W zAt [PV.agg [PV.slice 3 a0_0], PV.agg [PV.slice 0 a1_0], PV.agg [PV.slice 0 a2_0, PV.slice 6 a2_1, PV.int .i64 a2_2, PV.slice 0 a2_3, PV.slice 0 a2_4, PV.int .i64 a2_5], PV.agg [PV.int .i64 a3_0, PV.slice 3 a3_1], PV.agg [PV.int .i64 a4_0, PV.slice 3 a4_1], PV.agg [PV.int .i64 a5_0, PV.slice 3 a5_1]] =
 (wc W zDM []).bind fun v1 => c_b v1 fun v2 => (wc W zAu [PV.agg [PV.slice 3 a0_0], PV.agg [PV.slice 0 a1_0], PV.agg [PV.slice 0 a2_0, PV.slice 6 a2_1, PV.int .i64 a2_2, PV.slice 0 a2_3, PV.slice 0 a2_4, PV.int .i64 a2_5]]).bind fun v3 => c_b v3 fun v4 => bif !v2 then some (PV.bool v2) else bif !v4 then some (PV.bool v2) else (wc W zBr [PV.agg [PV.slice 0 a1_0], PV.agg [PV.slice 0 a2_0, PV.slice 6 a2_1, PV.int .i64 a2_2, PV.slice 0 a2_3, PV.slice 0 a2_4, PV.int .i64 a2_5]]).bind fun v5 => zA6 v5 fun v6 => bif v6 != (0 : Int) then some (PV.bool v2) else (wc W zAY [PV.agg [PV.int .i64 a3_0, PV.slice 3 a3_1], PV.int .i64 (30 : Int)]).bind fun v7 => zA6 v7 fun v8 => bif decide (GT.gt v8 (30 : Int)) then some (PV.bool v2) else (wc W zAY [PV.agg [PV.int .i64 a4_0, PV.slice 3 a4_1], PV.int .i64 (30 : Int)]).bind fun v9 => zA6 v9 fun v10 => bif decide (GT.gt v10 (30 : Int)) then some (PV.bool v2) else (wc W zAY [PV.agg [PV.int .i64 a5_0, PV.slice 3 a5_1], PV.int .i64 (30 : Int)]).bind fun v11 => zA6 v11 fun v12 => bif decide (GT.gt v12 (30 : Int)) then some (PV.bool v2) else zBd a0_0 a1_0 a2_0 a2_1 a2_2 a2_3 a2_4 a2_5 a3_0 a3_1 a4_0 a4_1 a5_0 a5_1 := go (by kernel_rfl) (by kernel_rfl) (tN_ fi7) (by kernel_rfl)
noncomputable def zJM (l3 l4 l5 l6 : List PV) : Option PV := (jN_ fi16) [1, 1] (St.mk [(2, AV.pv (PV.imm 3 (PV.agg [PV.slice 0 l3, PV.slice 0 l4]) 0)), (3, AV.pv (PV.imm 3 (PV.agg [PV.slice 0 l5, PV.slice 0 l6]) 0))] [])
noncomputable def zE3 (l7 l8 l9 l10 : List PV) (i11 i12 : Int) (m13 : List (PV × PV)) : Option PV := (lN_ fi16) [0, 1, 1, 1, 1] 1 (St.mk [(2, AV.pv (PV.imm 3 (PV.agg [PV.slice 0 l7, PV.slice 0 l8]) 0)), (3, AV.pv (PV.imm 3 (PV.agg [PV.slice 0 l9, PV.slice 0 l10]) 0)), (5, AV.mp 0), (27, AV.pv (PV.int .i64 i11)), (28, AV.pv (PV.int .i64 i12))] [Ob.map false m13])
theorem zKm (l3 l4 l5 l6 : List PV) : zJM l3 l4 l5 l6 =
 zE3 l3 l4 l5 l6 (((List.length l4) : Nat) : Int) (0 : Int) [] := ((tN_ fi16).join [1, 1] _).trans (by kernel_rfl)
theorem zFy (l7 : List PV) (l8 : List PV) (l9 : List PV) (l10 : List PV) (i11 : Int) (i12 : Int) (m13 : List (PV × PV)) : zE3 l7 l8 l9 l10 i11 i12 m13 =
 bif decide (i12 < i11) then bif decide ((0 : Int) ≤ i12) then (l8[Int.toNat i12]?).bind fun v14 => c_s3 v14 fun v15 => (wc W zG2 [PV.slice 3 v15]).bind fun v16 => c_t v16 fun v17 => (zLB (eqP Cf.cfg (6 : Nat) (9 : TypeId)) (PV.str v17) m13).bind fun v18 => (intP BinOp.add (Option.getD v18 (PV.int .i64 (0 : Int))) (PV.int .i64 (1 : Int))).bind fun v19 => zA6 v19 fun v20 => (mput (eqP Cf.cfg (6 : Nat) (9 : TypeId)) (PV.str v17) (PV.int .i64 v20) m13).bind fun v21 => bif decide ((0 : Int) ≤ i12) then (l10[Int.toNat i12]?).bind fun v22 => c_s3 v22 fun v23 => (wc W zG2 [PV.slice 3 v23]).bind fun v24 => c_t v24 fun v25 => (zLB (eqP Cf.cfg (6 : Nat) (9 : TypeId)) (PV.str v25) v21).bind fun v26 => (intP BinOp.sub (Option.getD v26 (PV.int .i64 (0 : Int))) (PV.int .i64 (1 : Int))).bind fun v27 => zA6 v27 fun v28 => (mput (eqP Cf.cfg (6 : Nat) (9 : TypeId)) (PV.str v25) (PV.int .i64 v28) v21).bind fun v29 => zE3 l7 l8 l9 l10 i11 (IntKind.wrap .i64 (i12 + (1 : Int) : Int)) v29 else none else none else (zMy m13).bind fun v30 => some (PV.bool v30) := ((tN_ fi16).loop [1, 1, 1, 1, 0] 1 _ rfl).trans (by kernel_rfl)
theorem zRG (a0_0 a0_1 a1_0 a1_1 : List PV) : wc W zDh [PV.agg [PV.slice 0 a0_0, PV.slice 0 a0_1], PV.agg [PV.slice 0 a1_0, PV.slice 0 a1_1]] =
 (wc W zBh [PV.slice 0 a0_0, PV.slice 0 a1_0]).bind fun v1 => c_b v1 fun v2 => bif !v2 then some (PV.bool false) else bif (((List.length a0_1) : Nat) : Int) != (((List.length a1_1) : Nat) : Int) then some (PV.bool false) else zJM a0_0 a0_1 a1_0 a1_1 := go (by kernel_rfl) (by kernel_rfl) (tN_ fi16) (by kernel_rfl)
theorem zHQ (a0_0 a1_0 a2_0 a2_1 : List PV) (a2_2 : Int) (a2_3 a2_4 : List PV) (a2_5 : Int) : wc W zAu [PV.agg [PV.slice 3 a0_0], PV.agg [PV.slice 0 a1_0], PV.agg [PV.slice 0 a2_0, PV.slice 6 a2_1, PV.int .i64 a2_2, PV.slice 0 a2_3, PV.slice 0 a2_4, PV.int .i64 a2_5]] =
 (wc W zEA [PV.agg [PV.slice 3 a0_0], PV.agg [PV.slice 0 a2_0, PV.slice 6 a2_1, PV.int .i64 a2_2, PV.slice 0 a2_3, PV.slice 0 a2_4, PV.int .i64 a2_5]]).bind fun v1 => zA6 v1 fun v2 => bif v2 == (0 : Int) then (wc W zEB [PV.agg [PV.slice 0 a1_0]]).bind fun v3 => zA6 v3 fun v4 => some (PV.bool (v4 == (0 : Int))) else some (PV.bool false) := go (by kernel_rfl) (by kernel_rfl) (tN_ fi19) (by kernel_rfl)
noncomputable def zAn (l1 : List PV) (i2 : Int) : Option PV := (jN_ fi20) [1, 1, 1] (St.mk [(2, AV.pv (PV.imm 2 (PV.agg [PV.slice 0 l1]) 0)), (5, AV.pv (PV.int .i64 i2))] [])
noncomputable def zAo (l3 : List PV) (i4 i5 : Int) : Option PV := (lN_ fi20) [0, 1, 0, 1, 1, 1] 0 (St.mk [(2, AV.pv (PV.imm 2 (PV.agg [PV.slice 0 l3]) 0)), (5, AV.pv (PV.int .i64 i4)), (6, AV.pv (PV.int .i64 i5))] [])
theorem zEO (l1 : List PV) (i2 : Int) : zAn l1 i2 =
 zAo l1 i2 (0 : Int) := ((tN_ fi20).join [1, 1, 1] _).trans (by kernel_rfl)
theorem zCF (l3 : List PV) (i4 i5 : Int) : zAo l3 i4 i5 =
 bif decide (i5 < (((List.length l3) : Nat) : Int)) then bif decide ((0 : Int) ≤ i5) then (l3[Int.toNat i5]?).bind fun v6 => c_s0 v6 fun v7 => bif decide (GT.gt (((List.length v7) : Nat) : Int) i4) then some (PV.int .i64 (1 : Int)) else zAo l3 i4 (IntKind.wrap .i64 (i5 + (1 : Int) : Int)) else none else some (PV.int .i64 (0 : Int)) := ((tN_ fi20).loop [1, 1, 1, 0, 1, 0] 0 _ rfl).trans (by kernel_rfl)
theorem zFz (a0_0 a1_0 a1_1 : List PV) (a1_2 : Int) (a1_3 a1_4 : List PV) (a1_5 : Int) : wc W zBr [PV.agg [PV.slice 0 a0_0], PV.agg [PV.slice 0 a1_0, PV.slice 6 a1_1, PV.int .i64 a1_2, PV.slice 0 a1_3, PV.slice 0 a1_4, PV.int .i64 a1_5]] =
 bif decide (GT.gt (((List.length a1_0) : Nat) : Int) (3 : Int)) then zAn a0_0 (3 : Int) else zAn a0_0 (5 : Int) := go (by kernel_rfl) (by kernel_rfl) (tN_ fi20) (by kernel_rfl)
noncomputable def zHr (l5 l6 l7 : List PV) (i8 : Int) (l9 l10 : List PV) (i11 : Int) : Option PV := (jN_ fi22) [1, 1, 1] (St.mk [(2, AV.pv (PV.imm 2 (PV.agg [PV.slice 3 l5]) 0)), (3, AV.pv (PV.imm 7 (PV.agg [PV.slice 0 l6, PV.slice 6 l7, PV.int .i64 i8, PV.slice 0 l9, PV.slice 0 l10, PV.int .i64 i11]) 0))] [])
noncomputable def zCi (l14 l15 : List PV) (i16 : Int) (l17 l18 : List PV) (i19 : Int) (l20 l21 : List PV) (i22 i23 : Int) : Option PV := (lN_ fi22) [0, 1, 0, 1, 1, 1, 1] 0 (St.mk [(3, AV.pv (PV.imm 7 (PV.agg [PV.slice 0 l14, PV.slice 6 l15, PV.int .i64 i16, PV.slice 0 l17, PV.slice 0 l18, PV.int .i64 i19]) 0)), (6, AV.pv (PV.slice 0 l20)), (43, AV.pv (PV.slice 6 l21)), (44, AV.pv (PV.int .i64 i22)), (45, AV.pv (PV.int .i64 i23))] [])
noncomputable def zCC (l38 l39 : List PV) (i40 : Int) (l41 l42 : List PV) (i43 : Int) (b44 : Bool) : Option PV := (jN_ fi22) [1, 0, 1, 0, 1, 1, 1, 1, 1] (St.mk [(3, AV.pv (PV.imm 7 (PV.agg [PV.slice 0 l38, PV.slice 6 l39, PV.int .i64 i40, PV.slice 0 l41, PV.slice 0 l42, PV.int .i64 i43]) 0)), (10, AV.pv (PV.bool b44))] [])
theorem zJX (l5 l6 l7 : List PV) (i8 : Int) (l9 l10 : List PV) (i11 : Int) : zHr l5 l6 l7 i8 l9 l10 i11 =
 (wc W zHJ [PV.agg [PV.slice 3 l5], PV.agg [PV.slice 0 l6, PV.slice 6 l7, PV.int .i64 i8, PV.slice 0 l9, PV.slice 0 l10, PV.int .i64 i11], PV.fn zFJ [] []]).bind fun v12 => c_s0 v12 fun v13 => zCi l6 l7 i8 l9 l10 i11 v13 l7 (((List.length l7) : Nat) : Int) (0 : Int) := ((tN_ fi22).join [1, 1, 1] _).trans (by kernel_rfl)
theorem zF1 (l14 l15 : List PV) (i16 : Int) (l17 l18 : List PV) (i19 : Int) (l20 l21 : List PV) (i22 i23 : Int) : zCi l14 l15 i16 l17 l18 i19 l20 l21 i22 i23 =
 bif decide (i23 < i22) then bif decide ((0 : Int) ≤ i23) then (l21[Int.toNat i23]?).bind fun v24 => zG v24 fun v25 v26 v27 v28 v29 => (wc W zFK [PV.agg [PV.int .i64 v25, PV.int .i64 v26, PV.int .i64 v27, PV.int .i64 v28, PV.slice 6 v29]]).bind fun v30 => c_s0 v30 fun v31 => bif (((List.length v31) : Nat) : Int) == (0 : Int) then some (PV.bool false) else (wc W zBf [PV.slice 0 v31, PV.slice 0 l20]).bind fun v32 => c_b v32 fun v33 => bif !v33 then some (PV.bool false) else zCi l14 l15 i16 l17 l18 i19 l20 l21 i22 (IntKind.wrap .i64 (i23 + (1 : Int) : Int)) else none else bif i16 == (-1 : Int) then bif decide (GE.ge (((List.length l18) : Nat) : Int) (1 : Int)) then bif decide ((((List.length l18) : Nat) : Int) ≤ (8 : Int)) then (wc W zFt [PV.slice 0 l18]).bind fun v34 => c_b v34 fun v35 => bif v35 then (wc W zBf [PV.slice 0 l18, PV.slice 0 l20]).bind fun v36 => c_b v36 fun v37 => zCC l14 l15 i16 l17 l18 i19 v37 else zCC l14 l15 i16 l17 l18 i19 false else zCC l14 l15 i16 l17 l18 i19 false else zCC l14 l15 i16 l17 l18 i19 false else (wc W zBf [PV.slice 0 [PV.int .i64 i16], PV.slice 0 l20]).bind fun v45 => c_b v45 fun v46 => bif v46 then bif decide ((((List.length l17) : Nat) : Int) ≤ (4 : Int)) then (wc W zBf [PV.slice 0 l17, PV.slice 0 l20]).bind fun v47 => c_b v47 fun v48 => bif v48 then bif (((List.length l18) : Nat) : Int) == (0 : Int) then bif i19 == (-1 : Int) then some (PV.bool true) else some (PV.bool (i19 == i16)) else some (PV.bool false) else some (PV.bool false) else some (PV.bool false) else some (PV.bool false) := ((tN_ fi22).loop [1, 1, 1, 1, 0, 1, 0] 0 _ rfl).trans (by kernel_rfl)
theorem zJY (l38 l39 : List PV) (i40 : Int) (l41 l42 : List PV) (i43 : Int) (b44 : Bool) : zCC l38 l39 i40 l41 l42 i43 b44 =
 bif b44 then bif (((List.length l41) : Nat) : Int) == (0 : Int) then bif i43 == (-1 : Int) then some (PV.bool true) else (wc W zA9 [PV.slice 0 l42, PV.int .i64 i43]).bind fun v49 => c_b v49 fun v50 => some (PV.bool v50) else some (PV.bool false) else some (PV.bool false) := ((tN_ fi22).join [1, 1, 1, 1, 1, 0, 1, 0, 1] _).trans (by kernel_rfl)
theorem zOx (a0_0 a1_0 a1_1 : List PV) (a1_2 : Int) (a1_3 a1_4 : List PV) (a1_5 : Int) : wc W zHG [PV.agg [PV.slice 3 a0_0], PV.agg [PV.slice 0 a1_0, PV.slice 6 a1_1, PV.int .i64 a1_2, PV.slice 0 a1_3, PV.slice 0 a1_4, PV.int .i64 a1_5]] =
 (wc W zG3 [PV.agg [PV.slice 3 a0_0]]).bind fun v1 => c_b v1 fun v2 => bif !v2 then some (PV.bool false) else bif decide ((((List.length a1_0) : Nat) : Int) < (1 : Int)) then some (PV.bool false) else bif decide (GT.gt (((List.length a1_0) : Nat) : Int) (4 : Int)) then some (PV.bool false) else (wc W zAO [PV.slice 0 a1_0, PV.fn zFI [] [PV.imm 2 (PV.agg [PV.slice 3 a0_0]) 0]]).bind fun v3 => c_b v3 fun v4 => bif v4 then some (PV.bool false) else bif decide (GT.gt (((List.length a1_1) : Nat) : Int) (6 : Int)) then some (PV.bool false) else zHr a0_0 a1_0 a1_1 a1_2 a1_3 a1_4 a1_5 := go (by kernel_rfl) (by kernel_rfl) (tN_ fi22) (by kernel_rfl)
noncomputable def zGm (l9 l10 l11 l12 : List PV) (i13 : Int) (l14 l15 : List PV) (i16 i17 : Int) (l18 : List PV) : Option PV := (jN_ fi25) [1, 1] (St.mk [(4, AV.pv (PV.imm 2 (PV.agg [PV.slice 3 l9]) 0)), (5, AV.pv (PV.imm 2 (PV.agg [PV.slice 0 l10]) 0)), (6, AV.pv (PV.imm 7 (PV.agg [PV.slice 0 l11, PV.slice 6 l12, PV.int .i64 i13, PV.slice 0 l14, PV.slice 0 l15, PV.int .i64 i16]) 0)), (7, AV.pv (PV.imm 3 (PV.agg [PV.int .i64 i17, PV.slice 3 l18]) 0)), (8, AV.own 0 0)] [Ob.var false 3 (AV.agg [AV.nil 0, AV.nil 0])])
theorem zIk (l9 l10 l11 l12 : List PV) (i13 : Int) (l14 l15 : List PV) (i16 i17 : Int) (l18 : List PV) : zGm l9 l10 l11 l12 i13 l14 l15 i16 i17 l18 =
 (W zFs false [AV.fnv zBO [] [AV.own 0 0, AV.pv (PV.imm 3 (PV.agg [PV.int .i64 i17, PV.slice 3 l18]) 0)]] [Ob.var false 0 (AV.fnv zF [] [AV.pv (PV.imm 2 (PV.agg [PV.slice 3 l9]) 0), AV.pv (PV.imm 2 (PV.agg [PV.slice 0 l10]) 0), AV.pv (PV.imm 7 (PV.agg [PV.slice 0 l11, PV.slice 6 l12, PV.int .i64 i13, PV.slice 0 l14, PV.slice 0 l15, PV.int .i64 i16]) 0), AV.own 0 0])]).bind fun v29 => zG9 v29 fun v30 v31 v32 v33 v34 v35 v36 v37 v38 => (PV.asTup v30).bind fun v39 => (v39[0]?).bind fun v40 => zAJ v40 fun v41 v42 => (PV.asTup v30).bind fun v43 => (v43[1]?).bind fun v44 => c_b v44 fun v45 => some (PV.tup [PV.agg [PV.slice 0 v41, PV.slice 0 v42], PV.bool v45]) := ((tN_ fi25).join [1, 1] _).trans (by kernel_rfl)
theorem zNd (a0_0 a1_0 a2_0 a2_1 : List PV) (a2_2 : Int) (a2_3 a2_4 : List PV) (a2_5 a3_0 : Int) (a3_1 : List PV) : wc W zBG [PV.agg [PV.slice 3 a0_0], PV.agg [PV.slice 0 a1_0], PV.agg [PV.slice 0 a2_0, PV.slice 6 a2_1, PV.int .i64 a2_2, PV.slice 0 a2_3, PV.slice 0 a2_4, PV.int .i64 a2_5], PV.agg [PV.int .i64 a3_0, PV.slice 3 a3_1]] =
 (wc W zHG [PV.agg [PV.slice 3 a0_0], PV.agg [PV.slice 0 a2_0, PV.slice 6 a2_1, PV.int .i64 a2_2, PV.slice 0 a2_3, PV.slice 0 a2_4, PV.int .i64 a2_5]]).bind fun v1 => c_b v1 fun v2 => bif !v2 then some (PV.tup [PV.agg [PV.slice 0 [], PV.slice 0 []], PV.bool false]) else (wc W zFH [PV.agg [PV.slice 3 a0_0], PV.agg [PV.slice 0 a1_0]]).bind fun v3 => c_b v3 fun v4 => bif !v4 then some (PV.tup [PV.agg [PV.slice 0 [], PV.slice 0 []], PV.bool false]) else (wc W zId [PV.agg [PV.int .i64 a3_0, PV.slice 3 a3_1]]).bind fun v5 => c_b v5 fun v6 => bif !v6 then some (PV.tup [PV.agg [PV.slice 0 [], PV.slice 0 []], PV.bool false]) else (wc W zDi [PV.agg [PV.int .i64 a3_0, PV.slice 3 a3_1]]).bind fun v7 => zA6 v7 fun v8 => bif decide (GT.gt (Int.fdiv v8 (HPow.hPow (2 : Int) (Min.min (Int.toNat (((List.length a2_0) : Nat) : Int)) 64))) (0 : Int)) then some (PV.tup [PV.agg [PV.slice 0 [], PV.slice 0 []], PV.bool false]) else zGm a0_0 a1_0 a2_0 a2_1 a2_2 a2_3 a2_4 a2_5 a3_0 a3_1 := go (by kernel_rfl) (by kernel_rfl) (tN_ fi25) (by kernel_rfl)
theorem zRH (a0_0 : Int) (a0_1 : List PV) : wc W zDi [PV.agg [PV.int .i64 a0_0, PV.slice 3 a0_1]] =
 (wc W zCZ [PV.agg [PV.int .i64 a0_0, PV.slice 3 a0_1], PV.int .i64 (4 : Int)]).bind fun v1 => (PV.asTup v1).bind fun v2 => (v2[0]?).bind fun v3 => zA6 v3 fun v4 => (PV.asTup v1).bind fun v5 => (v5[1]?).bind fun v6 => c_b v6 fun v7 => bif !v7 then some (PV.int .i64 (0 : Int)) else some (PV.int .i64 v4) := go (by kernel_rfl) (by kernel_rfl) (tN_ fi28) (by kernel_rfl)
noncomputable def zAx (i1 i2 : Int) (l3 : List PV) (i4 i5 : Int) : Option PV := (lN_ fi29) [0, 1, 0, 1, 1] 0 (St.mk [(1, AV.pv (PV.int .i64 i1)), (2, AV.pv (PV.imm 3 (PV.agg [PV.int .i64 i2, PV.slice 3 l3]) 0)), (5, AV.pv (PV.int .i64 i4)), (6, AV.pv (PV.int .i64 i5))] [])
noncomputable def zCr (i6 i7 : Int) (l8 : List PV) (i9 i10 : Int) : Option PV := (jN_ fi29) [1, 0, 0, 1, 0, 1, 1] (St.mk [(1, AV.pv (PV.int .i64 i6)), (2, AV.pv (PV.imm 3 (PV.agg [PV.int .i64 i7, PV.slice 3 l8]) 0)), (5, AV.pv (PV.int .i64 i9)), (6, AV.pv (PV.int .i64 i10))] [])
theorem zCM (i1 i2 : Int) (l3 : List PV) (i4 i5 : Int) : zAx i1 i2 l3 i4 i5 =
 bif decide (i5 < (((List.length l3) : Nat) : Int)) then bif decide (i4 ≤ i1) then zCr i1 i2 l3 i4 i5 else some (PV.int .i64 i4) else some (PV.int .i64 i4) := ((tN_ fi29).loop [1, 1, 0, 1, 0] 0 _ rfl).trans (by kernel_rfl)
theorem zEd (i6 i7 : Int) (l8 : List PV) (i9 i10 : Int) : zCr i6 i7 l8 i9 i10 =
 bif decide ((0 : Int) ≤ i10) then (l8[Int.toNat i10]?).bind fun v11 => zAB v11 fun v12 v13 => (wc W zAY [PV.agg [PV.int .i64 v12, PV.slice 3 v13], PV.int .i64 (IntKind.wrap .i64 (i6 - i9 : Int))]).bind fun v14 => zA6 v14 fun v15 => zAx i6 i7 l8 (IntKind.wrap .i64 (i9 + v15 : Int)) (IntKind.wrap .i64 (i10 + (1 : Int) : Int)) else none := ((tN_ fi29).join [1, 1, 0, 1, 0, 0, 1] _).trans (by kernel_rfl)
theorem zGg (a0_0 : Int) (a0_1 : List PV) (a1 : Int) : wc W zAY [PV.agg [PV.int .i64 a0_0, PV.slice 3 a0_1], PV.int .i64 a1] =
 zAx a1 a0_0 a0_1 (1 : Int) (0 : Int) := go (by kernel_rfl) (by kernel_rfl) (tN_ fi29) (by kernel_rfl)
theorem zOy (a0_0 : Int) (a0_1 : List PV) (a1_0 : Int) (a1_1 : List PV) : wc W zAh [PV.agg [PV.int .i64 a0_0, PV.slice 3 a0_1], PV.agg [PV.int .i64 a1_0, PV.slice 3 a1_1]] =
 some (PV.agg [PV.int .i64 (0 : Int), PV.slice 3 [PV.agg [PV.int .i64 a0_0, PV.slice 3 a0_1], PV.agg [PV.int .i64 a1_0, PV.slice 3 a1_1]]]) := go (by kernel_rfl) (by kernel_rfl) (tN_ fi38) (by kernel_rfl)
noncomputable def zJN (l5 l6 l7 : List PV) : Option PV := (jN_ fi39) [1, 1] (St.mk [(1, AV.pv (PV.slice 0 l5)), (2, AV.pv (PV.imm 3 (PV.agg [PV.slice 0 l6, PV.slice 0 l7]) 0)), (4, AV.own 0 0)] [Ob.var false 3 (AV.agg [AV.nil 0, AV.nil 0])])
noncomputable def zE4 (l8 l9 l10 l11 : List PV) (i12 i13 : Int) (l14 : List PV) : Option PV := (lN_ fi39) [0, 1, 0, 1, 1, 1] 2 (St.mk [(1, AV.pv (PV.slice 0 l8)), (2, AV.pv (PV.imm 3 (PV.agg [PV.slice 0 l9, PV.slice 0 l10]) 0)), (4, AV.own 0 0), (6, AV.view 1 0 none), (26, AV.pv (PV.slice 0 l11)), (27, AV.pv (PV.int .i64 i12)), (28, AV.pv (PV.int .i64 i13))] [Ob.var false 3 (AV.agg [AV.nil 0, AV.nil 0]), Ob.row false 0 0 l14])
noncomputable def zDP (l21 : List PV) (i22 i23 : Int) (l24 l25 l26 l27 l28 : List PV) : Option PV := (lN_ fi39) [0, 1, 0, 1, 1, 1, 1, 1] 6 (St.mk [(4, AV.own 0 0), (6, AV.view 1 0 none), (10, AV.own 4 0), (48, AV.pv (PV.slice 0 l21)), (49, AV.pv (PV.int .i64 i22)), (50, AV.pv (PV.int .i64 i23))] [Ob.var false 3 (AV.agg [AV.nil 0, AV.nil 0]), Ob.row false 0 0 l24, Ob.row false 0 0 l25, Ob.row false 0 0 l26, Ob.var false 3 (AV.agg [AV.pv (PV.slice 0 l27), AV.view 5 0 none]), Ob.row false 0 0 l28])
noncomputable def zE5 (l31 l32 : List PV) (i33 i34 i35 i36 : Int) (l37 l38 l39 l40 l41 l42 : List PV) : Option PV := (lN_ fi39) [0, 1, 0, 1, 1, 0, 0, 1, 1, 6, 0, 1, 0, 1, 1, 1, 1, 1] 7 (St.mk [(4, AV.own 0 0), (6, AV.view 1 0 none), (10, AV.own 4 0), (12, AV.pv (PV.slice 3 l31)), (13, AV.view 6 0 none), (48, AV.pv (PV.slice 0 l32)), (49, AV.pv (PV.int .i64 i33)), (50, AV.pv (PV.int .i64 i34)), (54, AV.view 1 0 none), (55, AV.pv (PV.int .i64 i35)), (56, AV.pv (PV.int .i64 i36))] [Ob.var false 3 (AV.agg [AV.nil 0, AV.nil 0]), Ob.row false 0 0 l37, Ob.row false 0 0 l38, Ob.row false 0 0 l39, Ob.var false 3 (AV.agg [AV.pv (PV.slice 0 l40), AV.view 5 0 none]), Ob.row false 0 0 l41, Ob.row false 0 3 l42])
theorem zKn (l5 l6 l7 : List PV) : zJN l5 l6 l7 =
 zE4 l5 l6 l7 l5 (((List.length l5) : Nat) : Int) (0 : Int) [] := ((tN_ fi39).join [1, 1] _).trans (by kernel_rfl)
theorem zGA (l8 l9 l10 l11 : List PV) (i12 i13 : Int) (l14 : List PV) : zE4 l8 l9 l10 l11 i12 i13 l14 =
 bif decide (i13 < i12) then bif decide ((0 : Int) ≤ i13) then (l11[Int.toNat i13]?).bind fun v15 => zA6 v15 fun v16 => (wc W zA0 [PV.slice 0 l9, PV.int .i64 v16]).bind fun v17 => zA6 v17 fun v18 => bif decide (v18 < (0 : Int)) then some (PV.tup [PV.agg [PV.slice 0 [], PV.slice 0 []], PV.bool false]) else bif true && (decide (((List.length l14) + 1 : Nat) ≤ 4294967296)) then zE4 l8 l9 l10 l11 i12 (IntKind.wrap .i64 (i13 + (1 : Int) : Int)) (l14 ++ [PV.int .i64 v18]) else none else none else (wc W zA1 [PV.slice 0 l8]).bind fun v19 => c_s0 v19 fun v20 => zDP l10 (((List.length l10) : Nat) : Int) (0 : Int) l14 [] [] v20 [] := ((tN_ fi39).loop [1, 1, 1, 0, 1, 0] 2 _ rfl).trans (by kernel_rfl)
theorem zGB (l21 : List PV) (i22 i23 : Int) (l24 l25 l26 l27 l28 : List PV) : zDP l21 i22 i23 l24 l25 l26 l27 l28 =
 bif decide (i23 < i22) then bif decide ((0 : Int) ≤ i23) then (l21[Int.toNat i23]?).bind fun v29 => c_s3 v29 fun v30 => zE5 v30 l21 i22 i23 (((List.length l24) : Nat) : Int) (0 : Int) l24 l25 l26 l27 l28 [] else none else some (PV.tup [PV.agg [PV.slice 0 l27, PV.slice 0 l28], PV.bool true]) := ((tN_ fi39).loop [1, 1, 1, 1, 1, 0, 1, 0] 6 _ rfl).trans (by kernel_rfl)
theorem zGC (l31 l32 : List PV) (i33 i34 i35 i36 : Int) (l37 l38 l39 l40 l41 l42 : List PV) : zE5 l31 l32 i33 i34 i35 i36 l37 l38 l39 l40 l41 l42 =
 bif decide (i36 < i35) then bif (true && (decide ((0 : Int) ≤ i36))) && (decide (i36 < (((List.length l37) : Nat) : Int))) then (l37[(0 + (Int.toNat i36) : Nat)]?).bind fun v43 => zA6 v43 fun v44 => bif decide ((0 : Int) ≤ v44) then (l31[Int.toNat v44]?).bind fun v45 => zD v45 fun v46 v47 => bif true && (decide (((List.length l42) + 1 : Nat) ≤ 4294967296)) then zE5 l31 l32 i33 i34 i35 (IntKind.wrap .i64 (i36 + (1 : Int) : Int)) l37 l38 l39 l40 l41 (l42 ++ [PV.agg [PV.int .i64 v46, PV.int .i64 v47]]) else none else none else none else bif true && (decide (((List.length l41) + 1 : Nat) ≤ 4294967296)) then zDP l32 i33 (IntKind.wrap .i64 (i34 + (1 : Int) : Int)) l37 l38 l39 l40 (l41 ++ [PV.slice 3 l42]) else none := ((tN_ fi39).loop [1, 1, 1, 1, 1, 0, 1, 0, 6, 1, 1, 0, 0, 1, 1, 0, 1, 0] 7 _ rfl).trans (by kernel_rfl)
theorem zRI (a0_0 a0_1 a1 : List PV) : wc W zIc [PV.agg [PV.slice 0 a0_0, PV.slice 0 a0_1], PV.slice 0 a1] =
 (wc W zDz [PV.agg [PV.slice 0 a0_0, PV.slice 0 a0_1]]).bind fun v1 => c_b v1 fun v2 => bif !v2 then some (PV.tup [PV.agg [PV.slice 0 [], PV.slice 0 []], PV.bool false]) else (wc W zDz [PV.agg [PV.slice 0 a1, PV.slice 0 []]]).bind fun v3 => c_b v3 fun v4 => bif !v4 then some (PV.tup [PV.agg [PV.slice 0 [], PV.slice 0 []], PV.bool false]) else zJN a1 a0_0 a0_1 := go (by kernel_rfl) (by kernel_rfl) (tN_ fi39) (by kernel_rfl)
theorem zOz (a0_0 a0_1 : List PV) (a0_2 : Int) (a0_3 a0_4 : List PV) (a0_5 a1 : Int) : wc W zHH [PV.agg [PV.slice 0 a0_0, PV.slice 6 a0_1, PV.int .i64 a0_2, PV.slice 0 a0_3, PV.slice 0 a0_4, PV.int .i64 a0_5], PV.int .i64 a1] =
 (wc W zEZ [PV.agg [PV.slice 0 a0_0, PV.slice 6 a0_1, PV.int .i64 a0_2, PV.slice 0 a0_3, PV.slice 0 a0_4, PV.int .i64 a0_5], PV.fn zAS [PV.int .i64 a1] []]).bind fun v1 => c_s0 v1 fun v2 => some (PV.slice 0 v2) := go (by kernel_rfl) (by kernel_rfl) (tN_ fi40) (by kernel_rfl)
noncomputable def zFQ (l1 l2 l3 : List PV) (i4 i5 : Int) (b6 b7 b8 b9 b10 b11 b12 b13 b14 b15 b16 b17 b18 b19 b20 b21 : Bool) : Option PV := (lN_ fi41) [0, 1, 0, 1, 1] 1 (St.mk [(1, AV.pv (PV.imm 3 (PV.agg [PV.slice 0 l1, PV.slice 0 l2]) 0)), (3, AV.own 0 0), (10, AV.pv (PV.slice 0 l3)), (11, AV.pv (PV.int .i64 i4)), (12, AV.pv (PV.int .i64 i5))] [Ob.var false 17 (AV.pv (PV.agg [PV.bool b6, PV.bool b7, PV.bool b8, PV.bool b9, PV.bool b10, PV.bool b11, PV.bool b12, PV.bool b13, PV.bool b14, PV.bool b15, PV.bool b16, PV.bool b17, PV.bool b18, PV.bool b19, PV.bool b20, PV.bool b21]))])
noncomputable def zFR (l26 l27 l28 : List PV) (i29 i30 : Int) (b31 b32 b33 b34 b35 b36 b37 b38 b39 b40 b41 b42 b43 b44 b45 b46 : Bool) : Option PV := (lN_ fi41) [0, 1, 0, 1, 1, 1, 1] 1 (St.mk [(1, AV.pv (PV.imm 3 (PV.agg [PV.slice 0 l26, PV.slice 0 l27]) 0)), (6, AV.pv (PV.fn zEC [] [])), (31, AV.pv (PV.slice 0 l28)), (32, AV.pv (PV.int .i64 i29)), (33, AV.pv (PV.int .i64 i30))] [Ob.var false 17 (AV.pv (PV.agg [PV.bool b31, PV.bool b32, PV.bool b33, PV.bool b34, PV.bool b35, PV.bool b36, PV.bool b37, PV.bool b38, PV.bool b39, PV.bool b40, PV.bool b41, PV.bool b42, PV.bool b43, PV.bool b44, PV.bool b45, PV.bool b46]))])
theorem zGn (l1 l2 l3 : List PV) (i4 i5 : Int) (b6 b7 b8 b9 b10 b11 b12 b13 b14 b15 b16 b17 b18 b19 b20 b21 : Bool) : zFQ l1 l2 l3 i4 i5 b6 b7 b8 b9 b10 b11 b12 b13 b14 b15 b16 b17 b18 b19 b20 b21 =
 bif decide (i5 < i4) then bif decide ((0 : Int) ≤ i5) then (l3[Int.toNat i5]?).bind fun v22 => zA6 v22 fun v23 => bif decide (v23 < (0 : Int)) then some (PV.bool false) else bif decide (GT.gt v23 (15 : Int)) then some (PV.bool false) else bif (decide ((0 : Int) ≤ v23)) && (decide (v23 < (16 : Int))) then (PV.load 17 (PV.agg [PV.bool b6, PV.bool b7, PV.bool b8, PV.bool b9, PV.bool b10, PV.bool b11, PV.bool b12, PV.bool b13, PV.bool b14, PV.bool b15, PV.bool b16, PV.bool b17, PV.bool b18, PV.bool b19, PV.bool b20, PV.bool b21]) (0 + ((Int.toNat v23) * 1 : Nat) : Nat) 0).bind fun v24 => c_b v24 fun v25 => bif v25 then some (PV.bool false) else bif (decide ((0 : Int) ≤ v23)) && (decide (v23 < (16 : Int))) then bif (decide (((0 + ((Int.toNat v23) * 1 : Nat) : Nat) + 1 : Nat) ≤ 16)) && true then zFQ l1 l2 l3 i4 (IntKind.wrap .i64 (i5 + (1 : Int) : Int)) (bif 0 == (0 + ((Int.toNat v23) * 1 : Nat) : Nat) then true else b6) (bif 1 == (0 + ((Int.toNat v23) * 1 : Nat) : Nat) then true else b7) (bif 2 == (0 + ((Int.toNat v23) * 1 : Nat) : Nat) then true else b8) (bif 3 == (0 + ((Int.toNat v23) * 1 : Nat) : Nat) then true else b9) (bif 4 == (0 + ((Int.toNat v23) * 1 : Nat) : Nat) then true else b10) (bif 5 == (0 + ((Int.toNat v23) * 1 : Nat) : Nat) then true else b11) (bif 6 == (0 + ((Int.toNat v23) * 1 : Nat) : Nat) then true else b12) (bif 7 == (0 + ((Int.toNat v23) * 1 : Nat) : Nat) then true else b13) (bif 8 == (0 + ((Int.toNat v23) * 1 : Nat) : Nat) then true else b14) (bif 9 == (0 + ((Int.toNat v23) * 1 : Nat) : Nat) then true else b15) (bif 10 == (0 + ((Int.toNat v23) * 1 : Nat) : Nat) then true else b16) (bif 11 == (0 + ((Int.toNat v23) * 1 : Nat) : Nat) then true else b17) (bif 12 == (0 + ((Int.toNat v23) * 1 : Nat) : Nat) then true else b18) (bif 13 == (0 + ((Int.toNat v23) * 1 : Nat) : Nat) then true else b19) (bif 14 == (0 + ((Int.toNat v23) * 1 : Nat) : Nat) then true else b20) (bif 15 == (0 + ((Int.toNat v23) * 1 : Nat) : Nat) then true else b21) else none else none else none else none else zFR l1 l2 l2 (((List.length l2) : Nat) : Int) (0 : Int) b6 b7 b8 b9 b10 b11 b12 b13 b14 b15 b16 b17 b18 b19 b20 b21 := ((tN_ fi41).loop [1, 1, 0, 1, 0] 1 _ rfl).trans (by kernel_rfl)
theorem zGo (l26 l27 l28 : List PV) (i29 i30 : Int) (b31 b32 b33 b34 b35 b36 b37 b38 b39 b40 b41 b42 b43 b44 b45 b46 : Bool) : zFR l26 l27 l28 i29 i30 b31 b32 b33 b34 b35 b36 b37 b38 b39 b40 b41 b42 b43 b44 b45 b46 =
 bif decide (i30 < i29) then bif decide ((0 : Int) ≤ i30) then (l28[Int.toNat i30]?).bind fun v47 => c_s3 v47 fun v48 => bif (((List.length v48) : Nat) : Int) != (((List.length l26) : Nat) : Int) then some (PV.bool false) else (wc W zI [PV.slice 3 v48, PV.fn zEC [] []]).bind fun v49 => c_b v49 fun v50 => bif v50 then some (PV.bool false) else zFR l26 l27 l28 i29 (IntKind.wrap .i64 (i30 + (1 : Int) : Int)) b31 b32 b33 b34 b35 b36 b37 b38 b39 b40 b41 b42 b43 b44 b45 b46 else none else some (PV.bool (decide ((((List.length l27) : Nat) : Int) ≤ (5000 : Int)))) := ((tN_ fi41).loop [1, 1, 1, 1, 0, 1, 0] 1 _ rfl).trans (by kernel_rfl)
theorem zSs (a0_0 a0_1 : List PV) : wc W zDz [PV.agg [PV.slice 0 a0_0, PV.slice 0 a0_1]] =
 zFQ a0_0 a0_1 a0_0 (((List.length a0_0) : Nat) : Int) (0 : Int) false false false false false false false false false false false false false false false false := go (by kernel_rfl) (by kernel_rfl) (tN_ fi41) (by kernel_rfl)
theorem zRJ (a0_0 a0_1 a1 : List PV) : wc W zDC [PV.agg [PV.slice 0 a0_0, PV.slice 0 a0_1], PV.slice 6 a1] =
 (wc W zIe [PV.agg [PV.slice 0 a0_0, PV.slice 0 a0_1], PV.fn zE0 [] [PV.imm 0 (PV.slice 6 a1) 0, PV.imm 3 (PV.agg [PV.slice 0 a0_0, PV.slice 0 a0_1]) 0]]).bind fun v1 => zAJ v1 fun v2 v3 => some (PV.agg [PV.slice 0 v2, PV.slice 0 v3]) := go (by kernel_rfl) (by kernel_rfl) (tN_ fi42) (by kernel_rfl)
noncomputable def zHs (l3 l4 : List PV) : Option PV := (jN_ fi50) [1, 1] (St.mk [(2, AV.pv (PV.imm 2 (PV.agg [PV.slice 3 l3]) 0)), (3, AV.pv (PV.imm 2 (PV.agg [PV.slice 0 l4]) 0))] [])
noncomputable def zD8 (l5 l6 : List PV) (i7 i8 : Int) : Option PV := (lN_ fi50) [0, 1, 0, 1, 1] 0 (St.mk [(2, AV.pv (PV.imm 2 (PV.agg [PV.slice 3 l5]) 0)), (21, AV.pv (PV.slice 0 l6)), (22, AV.pv (PV.int .i64 i7)), (23, AV.pv (PV.int .i64 i8))] [])
theorem zJZ (l3 l4 : List PV) : zHs l3 l4 =
 zD8 l3 l4 (((List.length l4) : Nat) : Int) (0 : Int) := ((tN_ fi50).join [1, 1] _).trans (by kernel_rfl)
theorem zF2 (l5 l6 : List PV) (i7 i8 : Int) : zD8 l5 l6 i7 i8 =
 bif decide (i8 < i7) then bif decide ((0 : Int) ≤ i8) then (l6[Int.toNat i8]?).bind fun v9 => c_s0 v9 fun v10 => bif decide (GT.gt (((List.length v10) : Nat) : Int) (8 : Int)) then some (PV.bool false) else (W zT false [AV.pv (PV.slice 0 v10), AV.fnv zAl [] [AV.pv (PV.imm 2 (PV.agg [PV.slice 3 l5]) 0), AV.own 0 0]] [Ob.var false 0 (AV.pv (PV.int .i64 i8))]).bind fun v14 => zFP v14 fun v15 v16 => c_b v15 fun v17 => bif v17 then some (PV.bool false) else zD8 l5 l6 i7 (IntKind.wrap .i64 (i8 + (1 : Int) : Int)) else none else some (PV.bool true) := ((tN_ fi50).loop [1, 1, 0, 1, 0] 0 _ rfl).trans (by kernel_rfl)
theorem zPA (a0_0 a1_0 : List PV) : wc W zFH [PV.agg [PV.slice 3 a0_0], PV.agg [PV.slice 0 a1_0]] =
 (wc W zG3 [PV.agg [PV.slice 3 a0_0]]).bind fun v1 => c_b v1 fun v2 => bif !v2 then some (PV.bool false) else bif (((List.length a1_0) : Nat) : Int) != (((List.length a0_0) : Nat) : Int) then some (PV.bool false) else zHs a0_0 a1_0 := go (by kernel_rfl) (by kernel_rfl) (tN_ fi50) (by kernel_rfl)
noncomputable def zAe (l1 l2 : List PV) (i3 i4 : Int) : Option PV := (lN_ fi52) [0, 1, 0, 1, 1] 0 (St.mk [(0, AV.pv (PV.slice 0 l1)), (1, AV.pv (PV.slice 0 l2)), (12, AV.pv (PV.int .i64 i3)), (13, AV.pv (PV.int .i64 i4))] [])
theorem zBv (l1 l2 : List PV) (i3 i4 : Int) : zAe l1 l2 i3 i4 =
 bif decide (i4 < i3) then bif decide ((0 : Int) ≤ i4) then (l1[Int.toNat i4]?).bind fun v5 => zA6 v5 fun v6 => bif decide ((0 : Int) ≤ i4) then (l2[Int.toNat i4]?).bind fun v7 => zA6 v7 fun v8 => bif v6 != v8 then some (PV.bool false) else zAe l1 l2 i3 (IntKind.wrap .i64 (i4 + (1 : Int) : Int)) else none else none else some (PV.bool true) := ((tN_ fi52).loop [1, 1, 0, 1, 0] 0 _ rfl).trans (by kernel_rfl)
theorem zF9 (a0 a1 : List PV) : wc W zBh [PV.slice 0 a0, PV.slice 0 a1] =
 bif (((List.length a0) : Nat) : Int) != (((List.length a1) : Nat) : Int) then some (PV.bool false) else zAe a0 a1 (((List.length a0) : Nat) : Int) (0 : Int) := go (by kernel_rfl) (by kernel_rfl) (tN_ fi52) (by kernel_rfl)
noncomputable def zAf (l1 : List PV) (i2 i3 i4 : Int) : Option PV := (lN_ fi54) [0, 1, 0, 1] 0 (St.mk [(0, AV.pv (PV.slice 0 l1)), (1, AV.pv (PV.int .i64 i2)), (7, AV.pv (PV.int .i64 i3)), (8, AV.pv (PV.int .i64 i4))] [])
theorem zBw (l1 : List PV) (i2 i3 i4 : Int) : zAf l1 i2 i3 i4 =
 bif decide (i4 < i3) then bif decide ((0 : Int) ≤ i4) then (l1[Int.toNat i4]?).bind fun v5 => zA6 v5 fun v6 => bif i2 == v6 then some (PV.int .i64 i4) else zAf l1 i2 i3 (IntKind.wrap .i64 (i4 + (1 : Int) : Int)) else none else some (PV.int .i64 (-1 : Int)) := ((tN_ fi54).loop [1, 0, 1, 0] 0 _ rfl).trans (by kernel_rfl)
theorem zFa (a0 : List PV) (a1 : Int) : wc W zA0 [PV.slice 0 a0, PV.int .i64 a1] =
 zAf a0 a1 (((List.length a0) : Nat) : Int) (0 : Int) := go (by kernel_rfl) (by kernel_rfl) (tN_ fi54) (by kernel_rfl)
theorem zHR (a0_0 a1_0 a1_1 : List PV) (a1_2 : Int) (a1_3 a1_4 : List PV) (a1_5 : Int) : wc W zEA [PV.agg [PV.slice 3 a0_0], PV.agg [PV.slice 0 a1_0, PV.slice 6 a1_1, PV.int .i64 a1_2, PV.slice 0 a1_3, PV.slice 0 a1_4, PV.int .i64 a1_5]] =
 (wc W zAv [PV.agg [PV.slice 3 a0_0], PV.agg [PV.slice 0 a1_0, PV.slice 6 a1_1, PV.int .i64 a1_2, PV.slice 0 a1_3, PV.slice 0 a1_4, PV.int .i64 a1_5]]).bind fun v1 => c_b v1 fun v2 => bif v2 then some (PV.int .i64 (0 : Int)) else some (PV.int .i64 (1 : Int)) := go (by kernel_rfl) (by kernel_rfl) (tN_ fi59) (by kernel_rfl)
theorem zHS (a0_0 : List PV) : wc W zEB [PV.agg [PV.slice 0 a0_0]] =
 (wc W zCV [PV.agg [PV.slice 0 a0_0]]).bind fun v1 => c_b v1 fun v2 => bif v2 then some (PV.int .i64 (0 : Int)) else some (PV.int .i64 (1 : Int)) := go (by kernel_rfl) (by kernel_rfl) (tN_ fi60) (by kernel_rfl)
theorem zNe (a0_0 a0_1 : List PV) (a1 : Bool) : wc W zEY [PV.agg [PV.slice 0 a0_0, PV.slice 0 a0_1], PV.bool a1] =
 bif !a1 then none else some (PV.agg [PV.slice 0 a0_0, PV.slice 0 a0_1]) := go (by kernel_rfl) (by kernel_rfl) (tN_ fi63) (by kernel_rfl)
noncomputable def zKo (i7 i8 : Int) (l9 l10 : List PV) : Option PV := (jN_ fi64) [1, 1] (St.mk [(2, AV.pv (PV.int .i64 i7)), (3, AV.pv (PV.int .i64 i8)), (4, AV.pv (PV.imm 2 (PV.agg [PV.slice 3 l9]) 0)), (5, AV.pv (PV.imm 2 (PV.agg [PV.slice 0 l10]) 0)), (8, AV.own 0 0)] [Ob.var false 3 (AV.agg [AV.nil 0, AV.nil 0])])
noncomputable def zEF (i14 i15 : Int) (l16 : List PV) (i17 i18 : Int) (l19 : List PV) : Option PV := (lN_ fi64) [0, 1, 0, 1, 1, 1] 2 (St.mk [(2, AV.pv (PV.int .i64 i14)), (3, AV.pv (PV.int .i64 i15)), (5, AV.pv (PV.imm 2 (PV.agg [PV.slice 0 l16]) 0)), (8, AV.own 0 0), (10, AV.view 1 0 none), (36, AV.pv (PV.int .i64 i17)), (37, AV.pv (PV.int .i64 i18))] [Ob.var false 3 (AV.agg [AV.nil 0, AV.nil 0]), Ob.row false 0 0 l19])
theorem zLI (i7 i8 : Int) (l9 l10 : List PV) : zKo i7 i8 l9 l10 =
 bif decide ((0 : Int) ≤ i7) then (l9[Int.toNat i7]?).bind fun v11 => (PV.load 3 v11 0 0).bind fun v12 => zA6 v12 fun v13 => zEF i7 i8 l10 v13 (0 : Int) [] else none := ((tN_ fi64).join [1, 1] _).trans (by kernel_rfl)
theorem zGp (i14 i15 : Int) (l16 : List PV) (i17 i18 : Int) (l19 : List PV) : zEF i14 i15 l16 i17 i18 l19 =
 bif decide (i18 < i17) then (wc W zEo [PV.int .i64 i15, PV.int .i64 i18]).bind fun v20 => zA6 v20 fun v21 => bif true && (decide (((List.length l19) + 1 : Nat) ≤ 4294967296)) then zEF i14 i15 l16 i17 (IntKind.wrap .i64 (i18 + (1 : Int) : Int)) (l19 ++ [PV.int .i64 v21]) else none else bif decide ((0 : Int) ≤ i14) then (l16[Int.toNat i14]?).bind fun v22 => c_s0 v22 fun v23 => (wc W zDC [PV.agg [PV.slice 0 l19, PV.slice 0 v23], PV.slice 6 []]).bind fun v24 => zAJ v24 fun v25 v26 => some (PV.tup [PV.agg [PV.slice 0 v25, PV.slice 0 v26], PV.bool true]) else none := ((tN_ fi64).loop [1, 1, 1, 0, 1, 0] 2 _ rfl).trans (by kernel_rfl)
theorem zSt (a0_0 a1_0 : List PV) (a2 a3 : Int) : wc W zKf [PV.agg [PV.slice 3 a0_0], PV.agg [PV.slice 0 a1_0], PV.int .i64 a2, PV.int .i64 a3] =
 (wc W zFH [PV.agg [PV.slice 3 a0_0], PV.agg [PV.slice 0 a1_0]]).bind fun v1 => c_b v1 fun v2 => bif !v2 then some (PV.tup [PV.agg [PV.slice 0 [], PV.slice 0 []], PV.bool false]) else (wc W zCh [PV.int .i64 a2, PV.int .i64 (0 : Int), PV.int .i64 (IntKind.wrap .i64 ((((List.length a0_0) : Nat) : Int) - (1 : Int) : Int))]).bind fun v3 => c_b v3 fun v4 => bif !v4 then some (PV.tup [PV.agg [PV.slice 0 [], PV.slice 0 []], PV.bool false]) else (wc W zEo [PV.int .i64 a3, PV.int .i64 (0 : Int)]).bind fun v5 => zA6 v5 fun v6 => bif v6 == (-1 : Int) then some (PV.tup [PV.agg [PV.slice 0 [], PV.slice 0 []], PV.bool false]) else zKo a2 a3 a0_0 a1_0 := go (by kernel_rfl) (by kernel_rfl) (tN_ fi64) (by kernel_rfl)
noncomputable def zHt (l9 l10 l11 l12 l13 l14 l15 l16 : List PV) : Option PV := (jN_ fi65) [1, 1, 1] (St.mk [(2, AV.pv (PV.imm 3 (PV.agg [PV.slice 0 l9, PV.slice 0 l10]) 0)), (3, AV.pv (PV.imm 3 (PV.agg [PV.slice 0 l11, PV.slice 0 l12]) 0)), (4, AV.own 0 0), (6, AV.own 3 0)] [Ob.var false 3 (AV.agg [AV.nil 0, AV.nil 0]), Ob.row false 0 0 l13, Ob.row false 0 0 l14, Ob.var false 3 (AV.agg [AV.pv (PV.slice 0 l15), AV.view 4 0 none]), Ob.row true 0 0 l16])
noncomputable def zCj (l17 l18 l19 : List PV) (i20 i21 : Int) (l22 l23 l24 l25 : List PV) : Option PV := (lN_ fi65) [0, 1, 0, 1, 1, 1] 5 (St.mk [(3, AV.pv (PV.imm 3 (PV.agg [PV.slice 0 l17, PV.slice 0 l18]) 0)), (4, AV.own 0 0), (6, AV.own 3 0), (45, AV.pv (PV.slice 0 l19)), (46, AV.pv (PV.int .i64 i20)), (47, AV.pv (PV.int .i64 i21))] [Ob.var false 3 (AV.agg [AV.nil 0, AV.nil 0]), Ob.row false 0 0 l22, Ob.row false 0 0 l23, Ob.var false 3 (AV.agg [AV.pv (PV.slice 0 l24), AV.view 4 0 none]), Ob.row true 0 0 l25])
noncomputable def zD9 (l28 l29 l30 l31 : List PV) (i32 i33 : Int) (l34 : List PV) (i35 i36 : Int) (l37 l38 l39 l40 : List PV) : Option PV := (lN_ fi65) [0, 1, 1, 0, 0, 1, 1, 5, 0, 1, 0, 1, 1, 1] 5 (St.mk [(3, AV.pv (PV.imm 3 (PV.agg [PV.slice 0 l28, PV.slice 0 l29]) 0)), (4, AV.own 0 0), (6, AV.own 3 0), (8, AV.pv (PV.slice 3 l30)), (45, AV.pv (PV.slice 0 l31)), (46, AV.pv (PV.int .i64 i32)), (47, AV.pv (PV.int .i64 i33)), (52, AV.pv (PV.slice 0 l34)), (53, AV.pv (PV.int .i64 i35)), (54, AV.pv (PV.int .i64 i36))] [Ob.var false 3 (AV.agg [AV.nil 0, AV.nil 0]), Ob.row false 0 0 l37, Ob.row false 0 0 l38, Ob.var false 3 (AV.agg [AV.pv (PV.slice 0 l39), AV.view 4 0 none]), Ob.row true 0 0 l40])
theorem zJ0 (l9 l10 l11 l12 l13 l14 l15 l16 : List PV) : zHt l9 l10 l11 l12 l13 l14 l15 l16 =
 zCj l11 l12 l10 (((List.length l10) : Nat) : Int) (0 : Int) l13 l14 l15 l16 := ((tN_ fi65).join [1, 1, 1] _).trans (by kernel_rfl)
theorem zF3 (l17 l18 l19 : List PV) (i20 i21 : Int) (l22 l23 l24 l25 : List PV) : zCj l17 l18 l19 i20 i21 l22 l23 l24 l25 =
 bif decide (i21 < i20) then bif decide ((0 : Int) ≤ i21) then (l19[Int.toNat i21]?).bind fun v26 => c_s3 v26 fun v27 => zD9 l17 l18 v27 l19 i20 i21 l18 (((List.length l18) : Nat) : Int) (0 : Int) l22 l23 l24 l25 else none else some (PV.tup [PV.agg [PV.slice 0 l24, PV.slice 0 l25], PV.bool true]) := ((tN_ fi65).loop [1, 1, 1, 0, 1, 0] 5 _ rfl).trans (by kernel_rfl)
theorem zF4 (l28 l29 l30 l31 : List PV) (i32 i33 : Int) (l34 : List PV) (i35 i36 : Int) (l37 l38 l39 l40 : List PV) : zD9 l28 l29 l30 l31 i32 i33 l34 i35 i36 l37 l38 l39 l40 =
 bif decide (i36 < i35) then bif decide ((0 : Int) ≤ i36) then (l34[Int.toNat i36]?).bind fun v41 => c_s3 v41 fun v42 => (wc W zA5 [PV.slice 0 [PV.slice 3 l30, PV.slice 3 v42]]).bind fun v43 => c_s3 v43 fun v44 => bif true && (decide (((List.length l40) + 1 : Nat) ≤ 4294967296)) then zD9 l28 l29 l30 l31 i32 i33 l34 i35 (IntKind.wrap .i64 (i36 + (1 : Int) : Int)) l37 l38 l39 (l40 ++ [PV.slice 3 v44]) else none else none else zCj l28 l29 l31 i32 (IntKind.wrap .i64 (i33 + (1 : Int) : Int)) l37 l38 l39 l40 := ((tN_ fi65).loop [1, 1, 1, 0, 1, 0, 5, 1, 1, 0, 0, 1, 1, 0] 5 _ rfl).trans (by kernel_rfl)
theorem zPB (a0_0 a0_1 a1_0 a1_1 : List PV) : wc W zHI [PV.agg [PV.slice 0 a0_0, PV.slice 0 a0_1], PV.agg [PV.slice 0 a1_0, PV.slice 0 a1_1]] =
 (wc W zBa [PV.slice 0 [PV.slice 0 a0_0, PV.slice 0 a1_0]]).bind fun v1 => c_s0 v1 fun v2 => (wc W zDz [PV.agg [PV.slice 0 a0_0, PV.slice 0 a0_1]]).bind fun v3 => c_b v3 fun v4 => bif !v4 then some (PV.tup [PV.agg [PV.slice 0 [], PV.slice 0 []], PV.bool false]) else (wc W zDz [PV.agg [PV.slice 0 a1_0, PV.slice 0 a1_1]]).bind fun v5 => c_b v5 fun v6 => bif !v6 then some (PV.tup [PV.agg [PV.slice 0 [], PV.slice 0 []], PV.bool false]) else (wc W zDz [PV.agg [PV.slice 0 v2, PV.slice 0 []]]).bind fun v7 => c_b v7 fun v8 => bif !v8 then some (PV.tup [PV.agg [PV.slice 0 [], PV.slice 0 []], PV.bool false]) else bif decide (GT.gt (IntKind.wrap .i64 ((((List.length a0_1) : Nat) : Int) * (((List.length a1_1) : Nat) : Int) : Int)) (5000 : Int)) then some (PV.tup [PV.agg [PV.slice 0 [], PV.slice 0 []], PV.bool false]) else zHt a0_0 a0_1 a1_0 a1_1 [] [] v2 [] := go (by kernel_rfl) (by kernel_rfl) (tN_ fi65) (by kernel_rfl)
end Go.Cf

namespace Go.Cf
open Go Go.Ab
set_option linter.unusedVariables false
set_option maxRecDepth 100000
theorem zMY (a0 : Int) (c0_0 : List PV) : wc W zFI [PV.int .i64 a0, PV.imm 2 (PV.agg [PV.slice 3 c0_0]) 0] =
 bif decide (a0 < (0 : Int)) then some (PV.bool true) else some (PV.bool (decide (GE.ge a0 (((List.length c0_0) : Nat) : Int)))) := go (by kernel_rfl) (by kernel_rfl) (tN_ fi66) (by kernel_rfl)
theorem zRK (a0_0 : List PV) : wc W zG3 [PV.agg [PV.slice 3 a0_0]] =
 (wc W zCh [PV.int .i64 (((List.length a0_0) : Nat) : Int), PV.int .i64 (1 : Int), PV.int .i64 (4 : Int)]).bind fun v1 => c_b v1 fun v2 => bif v2 then (wc W zAF [PV.slice 3 a0_0, PV.fn zE1 [] []]).bind fun v3 => c_b v3 fun v4 => some (PV.bool !v4) else some (PV.bool false) := go (by kernel_rfl) (by kernel_rfl) (tN_ fi67) (by kernel_rfl)
theorem zDW (a0 : List PV) (a1 : PV) : wc W zAO [PV.slice 0 a0, a1] =
 (wc W zBB [PV.slice 0 a0, a1]).bind fun v1 => zA6 v1 fun v2 => some (PV.bool (decide (GE.ge v2 (0 : Int)))) := go (by kernel_rfl) (by kernel_rfl) (tN_ fi68) (by kernel_rfl)
noncomputable def zBJ (p1 : PV) (l2 l3 l4 : List PV) (i5 : Int) (l6 l7 : List PV) (i8 i9 i10 : Int) (l11 : List PV) : Option PV := (lN_ fi69) [0, 1, 0, 1, 1] 1 (St.mk [(2, AV.pv p1), (3, AV.pv (PV.imm 2 (PV.agg [PV.slice 3 l2]) 0)), (4, AV.pv (PV.imm 7 (PV.agg [PV.slice 0 l3, PV.slice 6 l4, PV.int .i64 i5, PV.slice 0 l6, PV.slice 0 l7, PV.int .i64 i8]) 0)), (7, AV.view 0 0 none), (14, AV.pv (PV.int .i64 i9)), (15, AV.pv (PV.int .i64 i10))] [Ob.row false 0 0 l11])
noncomputable def zHu (p17 : PV) (l18 l19 l20 : List PV) (i21 : Int) (l22 l23 : List PV) (i24 i25 i26 i27 i28 : Int) (l29 : List PV) : Option PV := (jN_ fi69) [1, 1, 1, 0, 0, 1, 1, 1, 0, 1, 0, 1, 1] (St.mk [(2, AV.pv p17), (3, AV.pv (PV.imm 2 (PV.agg [PV.slice 3 l18]) 0)), (4, AV.pv (PV.imm 7 (PV.agg [PV.slice 0 l19, PV.slice 6 l20, PV.int .i64 i21, PV.slice 0 l22, PV.slice 0 l23, PV.int .i64 i24]) 0)), (7, AV.view 0 0 none), (8, AV.pv (PV.int .i64 i25)), (9, AV.pv (PV.int .i64 i26)), (14, AV.pv (PV.int .i64 i27)), (15, AV.pv (PV.int .i64 i28))] [Ob.row false 0 0 l29])
noncomputable def zDa (p33 : PV) (l34 l35 l36 : List PV) (i37 : Int) (l38 l39 : List PV) (i40 i41 i42 i43 i44 i45 : Int) (l46 : List PV) : Option PV := (lN_ fi69) [0, 1, 1, 1, 1, 0, 0, 1, 1, 1, 0, 1, 0, 1, 1] 1 (St.mk [(2, AV.pv p33), (3, AV.pv (PV.imm 2 (PV.agg [PV.slice 3 l34]) 0)), (4, AV.pv (PV.imm 7 (PV.agg [PV.slice 0 l35, PV.slice 6 l36, PV.int .i64 i37, PV.slice 0 l38, PV.slice 0 l39, PV.int .i64 i40]) 0)), (7, AV.view 0 0 none), (8, AV.pv (PV.int .i64 i41)), (14, AV.pv (PV.int .i64 i42)), (15, AV.pv (PV.int .i64 i43)), (43, AV.pv (PV.int .i64 i44)), (44, AV.pv (PV.int .i64 i45))] [Ob.row false 0 0 l46])
theorem zF5 (p1 : PV) (l2 l3 l4 : List PV) (i5 : Int) (l6 l7 : List PV) (i8 i9 i10 : Int) (l11 : List PV) : zBJ p1 l2 l3 l4 i5 l6 l7 i8 i9 i10 l11 =
 bif decide (i10 < i9) then bif decide ((0 : Int) ≤ i10) then (l3[Int.toNat i10]?).bind fun v12 => zA6 v12 fun v13 => (PV.asFn p1).bind fun v14 => (wc W (Prod.fst v14) (((Prod.fst (Prod.snd v14)) ++ [PV.int .i64 i10]) ++ (Prod.snd (Prod.snd v14)))).bind fun v15 => c_b v15 fun v16 => bif !v16 then zBJ p1 l2 l3 l4 i5 l6 l7 i8 i9 (IntKind.wrap .i64 (i10 + (1 : Int) : Int)) l11 else bif decide (v13 < (0 : Int)) then zBJ p1 l2 l3 l4 i5 l6 l7 i8 i9 (IntKind.wrap .i64 (i10 + (1 : Int) : Int)) l11 else bif decide (GE.ge v13 (((List.length l2) : Nat) : Int)) then zBJ p1 l2 l3 l4 i5 l6 l7 i8 i9 (IntKind.wrap .i64 (i10 + (1 : Int) : Int)) l11 else zHu p1 l2 l3 l4 i5 l6 l7 i8 i10 v13 i9 i10 l11 else none else some (PV.slice 0 l11) := ((tN_ fi69).loop [1, 1, 0, 1, 0] 1 _ rfl).trans (by kernel_rfl)
theorem zJ1 (p17 : PV) (l18 l19 l20 : List PV) (i21 : Int) (l22 l23 : List PV) (i24 i25 i26 i27 i28 : Int) (l29 : List PV) : zHu p17 l18 l19 l20 i21 l22 l23 i24 i25 i26 i27 i28 l29 =
 bif decide ((0 : Int) ≤ i26) then (l18[Int.toNat i26]?).bind fun v30 => (PV.load 3 v30 0 0).bind fun v31 => zA6 v31 fun v32 => zDa p17 l18 l19 l20 i21 l22 l23 i24 i25 i27 i28 v32 (0 : Int) l29 else none := ((tN_ fi69).join [1, 1, 0, 1, 0, 1, 1, 1, 0, 0, 1, 1, 1] _).trans (by kernel_rfl)
theorem zF6 (p33 : PV) (l34 l35 l36 : List PV) (i37 : Int) (l38 l39 : List PV) (i40 i41 i42 i43 i44 i45 : Int) (l46 : List PV) : zDa p33 l34 l35 l36 i37 l38 l39 i40 i41 i42 i43 i44 i45 l46 =
 bif decide (i45 < i44) then (wc W zEo [PV.int .i64 i41, PV.int .i64 i45]).bind fun v47 => zA6 v47 fun v48 => bif true && (decide (((List.length l46) + 1 : Nat) ≤ 4294967296)) then zDa p33 l34 l35 l36 i37 l38 l39 i40 i41 i42 i43 i44 (IntKind.wrap .i64 (i45 + (1 : Int) : Int)) (l46 ++ [PV.int .i64 v48]) else none else zBJ p33 l34 l35 l36 i37 l38 l39 i40 i42 (IntKind.wrap .i64 (i43 + (1 : Int) : Int)) l46 := ((tN_ fi69).loop [1, 1, 0, 1, 0, 1, 1, 1, 0, 0, 1, 1, 1, 1, 0] 1 _ rfl).trans (by kernel_rfl)
theorem zPC (a0_0 a1_0 a1_1 : List PV) (a1_2 : Int) (a1_3 a1_4 : List PV) (a1_5 : Int) (a2 : PV) : wc W zHJ [PV.agg [PV.slice 3 a0_0], PV.agg [PV.slice 0 a1_0, PV.slice 6 a1_1, PV.int .i64 a1_2, PV.slice 0 a1_3, PV.slice 0 a1_4, PV.int .i64 a1_5], a2] =
 zBJ a2 a0_0 a1_0 a1_1 a1_2 a1_3 a1_4 a1_5 (bif decide ((4 : Int) < (((List.length a1_0) : Nat) : Int)) then (4 : Int) else (((List.length a1_0) : Nat) : Int)) (0 : Int) [] := go (by kernel_rfl) (by kernel_rfl) (tN_ fi69) (by kernel_rfl)
theorem zMZ (a0 : Int) : wc W zFJ [PV.int .i64 a0] =
 some (PV.bool true) := go (by kernel_rfl) (by kernel_rfl) (tN_ fi70) (by kernel_rfl)
theorem zPD (a0_0 a0_1 a0_2 a0_3 : Int) (a0_4 : List PV) : wc W zFK [PV.agg [PV.int .i64 a0_0, PV.int .i64 a0_1, PV.int .i64 a0_2, PV.int .i64 a0_3, PV.slice 6 a0_4]] =
 (wc W zG5 [PV.agg [PV.int .i64 a0_0, PV.int .i64 a0_1, PV.int .i64 a0_2, PV.int .i64 a0_3, PV.slice 6 a0_4]]).bind fun v1 => c_b v1 fun v2 => bif !v2 then some (PV.slice 0 []) else (W zBs false [AV.pv (PV.agg [PV.int .i64 a0_0, PV.int .i64 a0_1, PV.int .i64 a0_2, PV.int .i64 a0_3, PV.slice 6 a0_4]), AV.pv (PV.int .i64 (1 : Int)), AV.fnv zBH [] [AV.own 0 0]] [Ob.var false 0 (AV.view 1 0 none), Ob.row false 0 0 []]).bind fun v10 => zJl v10 fun v11 v12 => c_b v11 fun v13 => (W zBt false [AV.fx 0 0] [Ob.fix 0 0 v12]).bind fun v15 => zMW v15 fun v16 v17 => (W zBX false [AV.view 0 0 none] [Ob.row false 0 0 v17]).bind fun v19 => zMV v19 fun v20 => c_s0 v20 fun v21 => some (PV.slice 0 v21) := go (by kernel_rfl) (by kernel_rfl) (tN_ fi71) (by kernel_rfl)
theorem zLJ (a0 a1 : List PV) : wc W zBf [PV.slice 0 a0, PV.slice 0 a1] =
 (wc W zAO [PV.slice 0 a0, PV.fn zDV [] [PV.imm 0 (PV.slice 0 a1) 0]]).bind fun v1 => c_b v1 fun v2 => some (PV.bool !v2) := go (by kernel_rfl) (by kernel_rfl) (tN_ fi72) (by kernel_rfl)
theorem zNf (a0 : List PV) : wc W zFt [PV.slice 0 a0] =
 (W zA1 true [AV.pv (PV.slice 0 a0)] []).bind fun v2 => zMX v2 fun v3 => (W zBt false [AV.fx 0 0] [Ob.fix 0 0 v3]).bind fun v5 => zMW v5 fun v6 v7 => (W zBX false [AV.view 0 0 none] [Ob.row false 0 0 v7]).bind fun v9 => zMV v9 fun v10 => c_s0 v10 fun v11 => some (PV.bool ((((List.length v11) : Nat) : Int) == (((List.length a0) : Nat) : Int))) := go (by kernel_rfl) (by kernel_rfl) (tN_ fi73) (by kernel_rfl)
theorem zEe (a0 : List PV) (a1 : Int) : wc W zA9 [PV.slice 0 a0, PV.int .i64 a1] =
 (wc W zA0 [PV.slice 0 a0, PV.int .i64 a1]).bind fun v1 => zA6 v1 fun v2 => some (PV.bool (decide (GE.ge v2 (0 : Int)))) := go (by kernel_rfl) (by kernel_rfl) (tN_ fi74) (by kernel_rfl)
theorem zRL (a0_0 : Int) (a0_1 : List PV) : wc W zId [PV.agg [PV.int .i64 a0_0, PV.slice 3 a0_1]] =
 (wc W zCZ [PV.agg [PV.int .i64 a0_0, PV.slice 3 a0_1], PV.int .i64 (4 : Int)]).bind fun v1 => (PV.asTup v1).bind fun v2 => (v2[0]?).bind fun v3 => zA6 v3 fun v4 => (PV.asTup v1).bind fun v5 => (v5[1]?).bind fun v6 => c_b v6 fun v7 => some (PV.bool v7) := go (by kernel_rfl) (by kernel_rfl) (tN_ fi77) (by kernel_rfl)
theorem zHT (i0 : Int) (l1 l2 l3 l4 l5 : List PV) (i6 : Int) (l7 l8 : List PV) (i9 : Int) (l10 l11 l12 l13 : List PV) (i14 : Int) (l15 l16 : List PV) (i17 : Int) : W zF false [AV.pv (PV.agg [PV.int .i64 i0, PV.slice 3 l1]), AV.pv (PV.imm 2 (PV.agg [PV.slice 3 l2]) 0), AV.pv (PV.imm 2 (PV.agg [PV.slice 0 l3]) 0), AV.pv (PV.imm 7 (PV.agg [PV.slice 0 l4, PV.slice 6 l5, PV.int .i64 i6, PV.slice 0 l7, PV.slice 0 l8, PV.int .i64 i9]) 0), AV.own 0 0] [Ob.var false 0 (AV.fnv zF [] [AV.pv (PV.imm 2 (PV.agg [PV.slice 3 l10]) 0), AV.pv (PV.imm 2 (PV.agg [PV.slice 0 l11]) 0), AV.pv (PV.imm 7 (PV.agg [PV.slice 0 l12, PV.slice 6 l13, PV.int .i64 i14, PV.slice 0 l15, PV.slice 0 l16, PV.int .i64 i17]) 0), AV.own 0 0])] =
 bif (((List.length l1) : Nat) : Int) == (0 : Int) then bif decide ((0 : Int) ≤ i0) then (l4[Int.toNat i0]?).bind fun v1 => zA6 v1 fun v2 => (wc W zKf [PV.agg [PV.slice 3 l2], PV.agg [PV.slice 0 l3], PV.int .i64 v2, PV.int .i64 i0]).bind fun v3 => (PV.asTup v3).bind fun v4 => (v4[0]?).bind fun v5 => zAJ v5 fun v6 v7 => (PV.asTup v3).bind fun v8 => (v8[1]?).bind fun v9 => c_b v9 fun v10 => (wc W zEY [PV.agg [PV.slice 0 v6, PV.slice 0 v7], PV.bool v10]).bind fun v11 => zAJ v11 fun v12 v13 => (wc W zDi [PV.agg [PV.int .i64 i0, PV.slice 3 l1]]).bind fun v14 => zA6 v14 fun v15 => (wc W zHH [PV.agg [PV.slice 0 l4, PV.slice 6 l5, PV.int .i64 i6, PV.slice 0 l7, PV.slice 0 l8, PV.int .i64 i9], PV.int .i64 v15]).bind fun v16 => c_s0 v16 fun v17 => (wc W zG4 [PV.agg [PV.slice 0 l4, PV.slice 6 l5, PV.int .i64 i6, PV.slice 0 l7, PV.slice 0 l8, PV.int .i64 i9], PV.slice 0 v17]).bind fun v18 => c_s6 v18 fun v19 => (wc W zDC [PV.agg [PV.slice 0 v12, PV.slice 0 v13], PV.slice 6 v19]).bind fun v20 => zAJ v20 fun v21 v22 => some (AV.pv (PV.agg [PV.slice 0 v21, PV.slice 0 v22]), [Ob.var false 0 (AV.fnv zF [] [AV.pv (PV.imm 2 (PV.agg [PV.slice 3 l10]) 0), AV.pv (PV.imm 2 (PV.agg [PV.slice 0 l11]) 0), AV.pv (PV.imm 7 (PV.agg [PV.slice 0 l12, PV.slice 6 l13, PV.int .i64 i14, PV.slice 0 l15, PV.slice 0 l16, PV.int .i64 i17]) 0), AV.own 0 0])]) else none else (l1[0]?).bind fun v23 => zAB v23 fun v24 v25 => (W zF false [AV.pv (PV.agg [PV.int .i64 v24, PV.slice 3 v25]), AV.pv (PV.imm 2 (PV.agg [PV.slice 3 l10]) 0), AV.pv (PV.imm 2 (PV.agg [PV.slice 0 l11]) 0), AV.pv (PV.imm 7 (PV.agg [PV.slice 0 l12, PV.slice 6 l13, PV.int .i64 i14, PV.slice 0 l15, PV.slice 0 l16, PV.int .i64 i17]) 0), AV.own 0 0] [Ob.var false 0 (AV.fnv zF [] [AV.pv (PV.imm 2 (PV.agg [PV.slice 3 l10]) 0), AV.pv (PV.imm 2 (PV.agg [PV.slice 0 l11]) 0), AV.pv (PV.imm 7 (PV.agg [PV.slice 0 l12, PV.slice 6 l13, PV.int .i64 i14, PV.slice 0 l15, PV.slice 0 l16, PV.int .i64 i17]) 0), AV.own 0 0])]).bind fun v44 => zG9 v44 fun v45 v46 v47 v48 v49 v50 v51 v52 v53 => bif eqOw [Ob.var false 0 (AV.fnv zF [] [AV.pv (PV.imm 2 (PV.agg [PV.slice 3 v46]) 0), AV.pv (PV.imm 2 (PV.agg [PV.slice 0 v47]) 0), AV.pv (PV.imm 7 (PV.agg [PV.slice 0 v48, PV.slice 6 v49, PV.int .i64 v50, PV.slice 0 v51, PV.slice 0 v52, PV.int .i64 v53]) 0), AV.own 0 0]), Ob.var false 3 (AV.agg [AV.nil 0, AV.nil 0])] [Ob.var false 0 (AV.fnv zF [] [AV.pv (PV.imm 2 (PV.agg [PV.slice 3 l10]) 0), AV.pv (PV.imm 2 (PV.agg [PV.slice 0 l11]) 0), AV.pv (PV.imm 7 (PV.agg [PV.slice 0 l12, PV.slice 6 l13, PV.int .i64 i14, PV.slice 0 l15, PV.slice 0 l16, PV.int .i64 i17]) 0), AV.own 0 0]), Ob.var false 3 (AV.agg [AV.nil 0, AV.nil 0])] then zAJ v45 fun v54 v55 => (l1[1]?).bind fun v56 => zAB v56 fun v57 v58 => (W zF false [AV.pv (PV.agg [PV.int .i64 v57, PV.slice 3 v58]), AV.pv (PV.imm 2 (PV.agg [PV.slice 3 l10]) 0), AV.pv (PV.imm 2 (PV.agg [PV.slice 0 l11]) 0), AV.pv (PV.imm 7 (PV.agg [PV.slice 0 l12, PV.slice 6 l13, PV.int .i64 i14, PV.slice 0 l15, PV.slice 0 l16, PV.int .i64 i17]) 0), AV.own 0 0] [Ob.var false 0 (AV.fnv zF [] [AV.pv (PV.imm 2 (PV.agg [PV.slice 3 l10]) 0), AV.pv (PV.imm 2 (PV.agg [PV.slice 0 l11]) 0), AV.pv (PV.imm 7 (PV.agg [PV.slice 0 l12, PV.slice 6 l13, PV.int .i64 i14, PV.slice 0 l15, PV.slice 0 l16, PV.int .i64 i17]) 0), AV.own 0 0])]).bind fun v77 => zG9 v77 fun v78 v79 v80 v81 v82 v83 v84 v85 v86 => bif eqOw [Ob.var false 0 (AV.fnv zF [] [AV.pv (PV.imm 2 (PV.agg [PV.slice 3 v79]) 0), AV.pv (PV.imm 2 (PV.agg [PV.slice 0 v80]) 0), AV.pv (PV.imm 7 (PV.agg [PV.slice 0 v81, PV.slice 6 v82, PV.int .i64 v83, PV.slice 0 v84, PV.slice 0 v85, PV.int .i64 v86]) 0), AV.own 0 0]), Ob.var false 3 (AV.agg [AV.nil 0, AV.nil 0])] [Ob.var false 0 (AV.fnv zF [] [AV.pv (PV.imm 2 (PV.agg [PV.slice 3 l10]) 0), AV.pv (PV.imm 2 (PV.agg [PV.slice 0 l11]) 0), AV.pv (PV.imm 7 (PV.agg [PV.slice 0 l12, PV.slice 6 l13, PV.int .i64 i14, PV.slice 0 l15, PV.slice 0 l16, PV.int .i64 i17]) 0), AV.own 0 0]), Ob.var false 3 (AV.agg [AV.nil 0, AV.nil 0])] then zAJ v78 fun v87 v88 => (wc W zHI [PV.agg [PV.slice 0 v54, PV.slice 0 v55], PV.agg [PV.slice 0 v87, PV.slice 0 v88]]).bind fun v89 => (PV.asTup v89).bind fun v90 => (v90[0]?).bind fun v91 => zAJ v91 fun v92 v93 => (PV.asTup v89).bind fun v94 => (v94[1]?).bind fun v95 => c_b v95 fun v96 => (wc W zEY [PV.agg [PV.slice 0 v92, PV.slice 0 v93], PV.bool v96]).bind fun v97 => zAJ v97 fun v98 v99 => (l1[0]?).bind fun v100 => zAB v100 fun v101 v102 => (wc W zDi [PV.agg [PV.int .i64 v101, PV.slice 3 v102]]).bind fun v103 => zA6 v103 fun v104 => (l1[1]?).bind fun v105 => zAB v105 fun v106 v107 => (wc W zDi [PV.agg [PV.int .i64 v106, PV.slice 3 v107]]).bind fun v108 => zA6 v108 fun v109 => (wc W zHK [PV.agg [PV.slice 0 l4, PV.slice 6 l5, PV.int .i64 i6, PV.slice 0 l7, PV.slice 0 l8, PV.int .i64 i9], PV.int .i64 v104, PV.int .i64 v109]).bind fun v110 => c_s0 v110 fun v111 => (wc W zG4 [PV.agg [PV.slice 0 l4, PV.slice 6 l5, PV.int .i64 i6, PV.slice 0 l7, PV.slice 0 l8, PV.int .i64 i9], PV.slice 0 v111]).bind fun v112 => c_s6 v112 fun v113 => (wc W zDC [PV.agg [PV.slice 0 v98, PV.slice 0 v99], PV.slice 6 v113]).bind fun v114 => zAJ v114 fun v115 v116 => some (AV.pv (PV.agg [PV.slice 0 v115, PV.slice 0 v116]), [Ob.var false 0 (AV.fnv zF [] [AV.pv (PV.imm 2 (PV.agg [PV.slice 3 l10]) 0), AV.pv (PV.imm 2 (PV.agg [PV.slice 0 l11]) 0), AV.pv (PV.imm 7 (PV.agg [PV.slice 0 l12, PV.slice 6 l13, PV.int .i64 i14, PV.slice 0 l15, PV.slice 0 l16, PV.int .i64 i17]) 0), AV.own 0 0])]) else none else none := goO (by kernel_rfl) (by kernel_rfl) (tO_ fi78 false 1) rfl (by kernel_rfl)
noncomputable def zE6 (l1 l2 : List PV) (i3 : Int) (l4 l5 : List PV) (i6 : Int) (l7 : List PV) (i8 i9 : Int) (l10 : List PV) : Option PV := (lN_ fi79) [0, 1, 0, 1, 1] 1 (St.mk [(2, AV.pv (PV.imm 7 (PV.agg [PV.slice 0 l1, PV.slice 6 l2, PV.int .i64 i3, PV.slice 0 l4, PV.slice 0 l5, PV.int .i64 i6]) 0)), (5, AV.view 0 0 none), (8, AV.pv (PV.slice 0 l7)), (9, AV.pv (PV.int .i64 i8)), (10, AV.pv (PV.int .i64 i9))] [Ob.row false 0 6 l10])
theorem zGD (l1 l2 : List PV) (i3 : Int) (l4 l5 : List PV) (i6 : Int) (l7 : List PV) (i8 i9 : Int) (l10 : List PV) : zE6 l1 l2 i3 l4 l5 i6 l7 i8 i9 l10 =
 bif decide (i9 < i8) then bif decide ((0 : Int) ≤ i9) then (l7[Int.toNat i9]?).bind fun v11 => zA6 v11 fun v12 => bif decide ((0 : Int) ≤ v12) then (l2[Int.toNat v12]?).bind fun v13 => zG v13 fun v14 v15 v16 v17 v18 => bif true && (decide (((List.length l10) + 1 : Nat) ≤ 4294967296)) then zE6 l1 l2 i3 l4 l5 i6 l7 i8 (IntKind.wrap .i64 (i9 + (1 : Int) : Int)) (l10 ++ [PV.agg [PV.int .i64 v14, PV.int .i64 v15, PV.int .i64 v16, PV.int .i64 v17, PV.slice 6 v18]]) else none else none else none else some (PV.slice 6 l10) := ((tN_ fi79).loop [1, 1, 0, 1, 0] 1 _ rfl).trans (by kernel_rfl)
theorem zRM (a0_0 a0_1 : List PV) (a0_2 : Int) (a0_3 a0_4 : List PV) (a0_5 : Int) (a1 : List PV) : wc W zG4 [PV.agg [PV.slice 0 a0_0, PV.slice 6 a0_1, PV.int .i64 a0_2, PV.slice 0 a0_3, PV.slice 0 a0_4, PV.int .i64 a0_5], PV.slice 0 a1] =
 zE6 a0_0 a0_1 a0_2 a0_3 a0_4 a0_5 a1 (((List.length a1) : Nat) : Int) (0 : Int) [] := go (by kernel_rfl) (by kernel_rfl) (tN_ fi79) (by kernel_rfl)
theorem zPE (a0_0 a0_1 : List PV) (a0_2 : Int) (a0_3 a0_4 : List PV) (a0_5 a1 a2 : Int) : wc W zHK [PV.agg [PV.slice 0 a0_0, PV.slice 6 a0_1, PV.int .i64 a0_2, PV.slice 0 a0_3, PV.slice 0 a0_4, PV.int .i64 a0_5], PV.int .i64 a1, PV.int .i64 a2] =
 (W zEZ false [AV.pv (PV.agg [PV.slice 0 a0_0, PV.slice 6 a0_1, PV.int .i64 a0_2, PV.slice 0 a0_3, PV.slice 0 a0_4, PV.int .i64 a0_5]), AV.fnv zCB [] [AV.own 0 0, AV.own 1 0, AV.own 2 0]] [Ob.var false 0 (AV.pv (PV.int .i64 (IntKind.wrap .i64 (((BitVec.toNat (HOr.hOr (BitVec.ofInt 64 a1) (BitVec.ofInt 64 a2))) : Nat) : Int)))), Ob.var false 0 (AV.pv (PV.int .i64 a1)), Ob.var false 0 (AV.pv (PV.int .i64 a2))]).bind fun v10 => zMU v10 fun v11 v12 v13 v14 => c_s0 v11 fun v15 => some (PV.slice 0 v15) := go (by kernel_rfl) (by kernel_rfl) (tN_ fi80) (by kernel_rfl)
theorem zHU (i0 : Int) (l1 l2 l3 l4 l5 : List PV) (i6 : Int) (l7 l8 : List PV) (i9 : Int) : W zBO false [AV.own 0 0, AV.pv (PV.imm 3 (PV.agg [PV.int .i64 i0, PV.slice 3 l1]) 0)] [Ob.var false 0 (AV.fnv zF [] [AV.pv (PV.imm 2 (PV.agg [PV.slice 3 l2]) 0), AV.pv (PV.imm 2 (PV.agg [PV.slice 0 l3]) 0), AV.pv (PV.imm 7 (PV.agg [PV.slice 0 l4, PV.slice 6 l5, PV.int .i64 i6, PV.slice 0 l7, PV.slice 0 l8, PV.int .i64 i9]) 0), AV.own 0 0])] =
 (W zF false [AV.pv (PV.agg [PV.int .i64 i0, PV.slice 3 l1]), AV.pv (PV.imm 2 (PV.agg [PV.slice 3 l2]) 0), AV.pv (PV.imm 2 (PV.agg [PV.slice 0 l3]) 0), AV.pv (PV.imm 7 (PV.agg [PV.slice 0 l4, PV.slice 6 l5, PV.int .i64 i6, PV.slice 0 l7, PV.slice 0 l8, PV.int .i64 i9]) 0), AV.own 0 0] [Ob.var false 0 (AV.fnv zF [] [AV.pv (PV.imm 2 (PV.agg [PV.slice 3 l2]) 0), AV.pv (PV.imm 2 (PV.agg [PV.slice 0 l3]) 0), AV.pv (PV.imm 7 (PV.agg [PV.slice 0 l4, PV.slice 6 l5, PV.int .i64 i6, PV.slice 0 l7, PV.slice 0 l8, PV.int .i64 i9]) 0), AV.own 0 0])]).bind fun v19 => zG9 v19 fun v20 v21 v22 v23 v24 v25 v26 v27 v28 => zAJ v20 fun v29 v30 => some (AV.pv (PV.agg [PV.slice 0 v29, PV.slice 0 v30]), [Ob.var false 0 (AV.fnv zF [] [AV.pv (PV.imm 2 (PV.agg [PV.slice 3 v21]) 0), AV.pv (PV.imm 2 (PV.agg [PV.slice 0 v22]) 0), AV.pv (PV.imm 7 (PV.agg [PV.slice 0 v23, PV.slice 6 v24, PV.int .i64 v25, PV.slice 0 v26, PV.slice 0 v27, PV.int .i64 v28]) 0), AV.own 0 0])]) := goO (by kernel_rfl) (by kernel_rfl) (tO_ fi81 false 1) rfl (by kernel_rfl)
noncomputable def zBx (i1 i2 : Int) (l3 : List PV) (b4 : Bool) : Option PV := (jN_ fi83) [1, 0, 0, 1] (St.mk [(1, AV.pv (PV.int .i64 i1)), (2, AV.pv (PV.imm 3 (PV.agg [PV.int .i64 i2, PV.slice 3 l3]) 0)), (11, AV.pv (PV.bool b4))] [])
noncomputable def zGE (i5 : Int) (l6 : List PV) (b7 : Bool) : Option PV := (jN_ fi83) [1, 0, 1, 1, 1, 0, 0, 1] (St.mk [(2, AV.pv (PV.imm 3 (PV.agg [PV.int .i64 i5, PV.slice 3 l6]) 0)), (6, AV.pv (PV.bool b7))] [])
theorem zBY (i1 i2 : Int) (l3 : List PV) (b4 : Bool) : zBx i1 i2 l3 b4 =
 bif b4 then some (PV.tup [PV.int .i64 (0 : Int), PV.bool false]) else bif (((List.length l3) : Nat) : Int) == (0 : Int) then bif decide (GE.ge i2 (0 : Int)) then zGE i2 l3 (decide (i2 < (4 : Int))) else zGE i2 l3 false else (l3[0]?).bind fun v8 => zAB v8 fun v9 v10 => (wc W zCZ [PV.agg [PV.int .i64 v9, PV.slice 3 v10], PV.int .i64 (IntKind.wrap .i64 (i1 - (1 : Int) : Int))]).bind fun v11 => (PV.asTup v11).bind fun v12 => (v12[0]?).bind fun v13 => zA6 v13 fun v14 => (PV.asTup v11).bind fun v15 => (v15[1]?).bind fun v16 => c_b v16 fun v17 => (l3[1]?).bind fun v18 => zAB v18 fun v19 v20 => (wc W zCZ [PV.agg [PV.int .i64 v19, PV.slice 3 v20], PV.int .i64 (IntKind.wrap .i64 (i1 - (1 : Int) : Int))]).bind fun v21 => (PV.asTup v21).bind fun v22 => (v22[0]?).bind fun v23 => zA6 v23 fun v24 => (PV.asTup v21).bind fun v25 => (v25[1]?).bind fun v26 => c_b v26 fun v27 => bif v17 then bif v27 then some (PV.tup [PV.int .i64 (IntKind.wrap .i64 (((BitVec.toNat (HOr.hOr (BitVec.ofInt 64 v14) (BitVec.ofInt 64 v24))) : Nat) : Int)), PV.bool ((IntKind.wrap .i64 (((BitVec.toNat (HAnd.hAnd (BitVec.ofInt 64 v14) (BitVec.ofInt 64 v24))) : Nat) : Int)) == (0 : Int))]) else some (PV.tup [PV.int .i64 (IntKind.wrap .i64 (((BitVec.toNat (HOr.hOr (BitVec.ofInt 64 v14) (BitVec.ofInt 64 v24))) : Nat) : Int)), PV.bool false]) else some (PV.tup [PV.int .i64 (IntKind.wrap .i64 (((BitVec.toNat (HOr.hOr (BitVec.ofInt 64 v14) (BitVec.ofInt 64 v24))) : Nat) : Int)), PV.bool false]) := ((tN_ fi83).join [1, 0, 0, 1] _).trans (by kernel_rfl)
theorem zKp (i5 : Int) (l6 : List PV) (b7 : Bool) : zGE i5 l6 b7 =
 (bif decide ((bif decide ((Int.tmod i5 (4 : Int)) < (0 : Int)) then (0 : Int) else Int.tmod i5 (4 : Int)) < (0 : Int)) then none else some (PV.int .i64 (IntKind.wrap .i64 ((1 : Int) * (HPow.hPow (2 : Int) (Min.min (Int.toNat (bif decide ((Int.tmod i5 (4 : Int)) < (0 : Int)) then (0 : Int) else Int.tmod i5 (4 : Int))) 64)) : Int)))).bind fun v28 => zA6 v28 fun v29 => some (PV.tup [PV.int .i64 v29, PV.bool b7]) := ((tN_ fi83).join [1, 0, 0, 1, 1, 1, 0, 1] _).trans (by kernel_rfl)
theorem zLg (a0_0 : Int) (a0_1 : List PV) (a1 : Int) : wc W zCZ [PV.agg [PV.int .i64 a0_0, PV.slice 3 a0_1], PV.int .i64 a1] =
 bif a1 == (0 : Int) then zBx a1 a0_0 a0_1 (a1 == (0 : Int)) else bif (((List.length a0_1) : Nat) : Int) != (0 : Int) then bif (((List.length a0_1) : Nat) : Int) != (2 : Int) then zBx a1 a0_0 a0_1 ((((List.length a0_1) : Nat) : Int) != (2 : Int)) else bif (((List.length a0_1) : Nat) : Int) == (2 : Int) then zBx a1 a0_0 a0_1 (a0_0 != (0 : Int)) else zBx a1 a0_0 a0_1 false else bif (((List.length a0_1) : Nat) : Int) == (2 : Int) then zBx a1 a0_0 a0_1 (a0_0 != (0 : Int)) else zBx a1 a0_0 a0_1 false := go (by kernel_rfl) (by kernel_rfl) (tN_ fi83) (by kernel_rfl)
noncomputable def zCN (p1 : PV) (l2 : List PV) (i3 i4 : Int) (l5 : List PV) : Option PV := (lN_ fi97) [0, 1, 0, 1, 1] 1 (St.mk [(1, AV.pv p1), (5, AV.view 0 0 none), (9, AV.pv (PV.slice 6 l2)), (10, AV.pv (PV.int .i64 i3)), (11, AV.pv (PV.int .i64 i4))] [Ob.row false 0 0 l5])
theorem zEr (p1 : PV) (l2 : List PV) (i3 i4 : Int) (l5 : List PV) : zCN p1 l2 i3 i4 l5 =
 bif decide (i4 < i3) then bif decide ((0 : Int) ≤ i4) then (l2[Int.toNat i4]?).bind fun v6 => zG v6 fun v7 v8 v9 v10 v11 => (wc W zG6 [PV.agg [PV.int .i64 v7, PV.int .i64 v8, PV.int .i64 v9, PV.int .i64 v10, PV.slice 6 v11]]).bind fun v12 => zA6 v12 fun v13 => (PV.asFn p1).bind fun v14 => (wc W (Prod.fst v14) (((Prod.fst (Prod.snd v14)) ++ [PV.int .i64 v13]) ++ (Prod.snd (Prod.snd v14)))).bind fun v15 => c_b v15 fun v16 => bif v16 then bif true && (decide (((List.length l5) + 1 : Nat) ≤ 4294967296)) then zCN p1 l2 i3 (IntKind.wrap .i64 (i4 + (1 : Int) : Int)) (l5 ++ [PV.int .i64 i4]) else none else zCN p1 l2 i3 (IntKind.wrap .i64 (i4 + (1 : Int) : Int)) l5 else none else some (PV.slice 0 l5) := ((tN_ fi97).loop [1, 1, 0, 1, 0] 1 _ rfl).trans (by kernel_rfl)
theorem zNg (a0_0 a0_1 : List PV) (a0_2 : Int) (a0_3 a0_4 : List PV) (a0_5 : Int) (a1 : PV) : wc W zEZ [PV.agg [PV.slice 0 a0_0, PV.slice 6 a0_1, PV.int .i64 a0_2, PV.slice 0 a0_3, PV.slice 0 a0_4, PV.int .i64 a0_5], a1] =
 zCN a1 a0_1 (((List.length a0_1) : Nat) : Int) (0 : Int) [] := go (by kernel_rfl) (by kernel_rfl) (tN_ fi97) (by kernel_rfl)
noncomputable def zBZ (l1 : List PV) (i2 i3 i4 i5 i6 : Int) (l7 : List PV) : Option (AV × List Ob) := (lO_ fi97 false 3) [0, 1, 0, 1, 1] 4 (St.mk [(1, AV.fnv zCB [] [AV.own 0 0, AV.own 1 0, AV.own 2 0]), (5, AV.view 3 0 none), (9, AV.pv (PV.slice 6 l1)), (10, AV.pv (PV.int .i64 i2)), (11, AV.pv (PV.int .i64 i3))] [Ob.var false 0 (AV.pv (PV.int .i64 i4)), Ob.var false 0 (AV.pv (PV.int .i64 i5)), Ob.var false 0 (AV.pv (PV.int .i64 i6)), Ob.row false 0 0 l7])
theorem zD1 (l1 : List PV) (i2 i3 i4 i5 i6 : Int) (l7 : List PV) : zBZ l1 i2 i3 i4 i5 i6 l7 =
 bif decide (i3 < i2) then bif decide ((0 : Int) ≤ i3) then (l1[Int.toNat i3]?).bind fun v8 => zG v8 fun v9 v10 v11 v12 v13 => (wc W zG6 [PV.agg [PV.int .i64 v9, PV.int .i64 v10, PV.int .i64 v11, PV.int .i64 v12, PV.slice 6 v13]]).bind fun v14 => zA6 v14 fun v15 => (W zCB false [AV.pv (PV.int .i64 v15), AV.own 0 0, AV.own 1 0, AV.own 2 0] [Ob.var false 0 (AV.pv (PV.int .i64 i4)), Ob.var false 0 (AV.pv (PV.int .i64 i5)), Ob.var false 0 (AV.pv (PV.int .i64 i6))]).bind fun v20 => zMU v20 fun v21 v22 v23 v24 => c_b v21 fun v25 => bif v25 then bif true && (decide (((List.length l7) + 1 : Nat) ≤ 4294967296)) then zBZ l1 i2 (IntKind.wrap .i64 (i3 + (1 : Int) : Int)) v22 v23 v24 (l7 ++ [PV.int .i64 i3]) else none else zBZ l1 i2 (IntKind.wrap .i64 (i3 + (1 : Int) : Int)) v22 v23 v24 l7 else none else some (AV.pv (PV.slice 0 l7), [Ob.var false 0 (AV.pv (PV.int .i64 i4)), Ob.var false 0 (AV.pv (PV.int .i64 i5)), Ob.var false 0 (AV.pv (PV.int .i64 i6))]) := ((tO_ fi97 false 3).loop [1, 1, 0, 1, 0] 4 _ rfl).trans (by kernel_rfl)
theorem zIl (l0 l1 : List PV) (i2 : Int) (l3 l4 : List PV) (i5 i6 i7 i8 : Int) : W zEZ false [AV.pv (PV.agg [PV.slice 0 l0, PV.slice 6 l1, PV.int .i64 i2, PV.slice 0 l3, PV.slice 0 l4, PV.int .i64 i5]), AV.fnv zCB [] [AV.own 0 0, AV.own 1 0, AV.own 2 0]] [Ob.var false 0 (AV.pv (PV.int .i64 i6)), Ob.var false 0 (AV.pv (PV.int .i64 i7)), Ob.var false 0 (AV.pv (PV.int .i64 i8))] =
 zBZ l1 (((List.length l1) : Nat) : Int) (0 : Int) i6 i7 i8 [] := goO (by kernel_rfl) (by kernel_rfl) (tO_ fi97 false 3) rfl (by kernel_rfl)
theorem zIm (a0 a1 : Int) : wc W zAS [PV.int .i64 a0, PV.int .i64 a1] =
 some (PV.bool ((IntKind.wrap .i64 (((BitVec.toNat (HAnd.hAnd (BitVec.ofInt 64 a0) (BitVec.ofInt 64 a1))) : Nat) : Int)) == a1)) := go (by kernel_rfl) (by kernel_rfl) (tN_ fi98) (by kernel_rfl)
theorem zPF (a0_0 a0_1 : Int) : wc W zEC [PV.agg [PV.int .i64 a0_0, PV.int .i64 a0_1]] =
 (wc W zEn [PV.agg [PV.int .i64 a0_0, PV.int .i64 a0_1]]).bind fun v1 => c_b v1 fun v2 => some (PV.bool !v2) := go (by kernel_rfl) (by kernel_rfl) (tN_ fi99) (by kernel_rfl)
theorem zSu (a0_0 a0_1 : Int) : wc W zEn [PV.agg [PV.int .i64 a0_0, PV.int .i64 a0_1]] =
 bif decide (GE.ge a0_0 (0 : Int)) then bif decide (a0_0 < (3 : Int)) then bif a0_0 == (0 : Int) then some (PV.bool true) else some (PV.bool (a0_1 == (0 : Int))) else some (PV.bool false) else some (PV.bool false) := go (by kernel_rfl) (by kernel_rfl) (tN_ zWv) (by kernel_rfl)
theorem zBe (a0 : List PV) (a1 : PV) : wc W zI [PV.slice 3 a0, a1] =
 (wc W zY [PV.slice 3 a0, a1]).bind fun v1 => zA6 v1 fun v2 => some (PV.bool (decide (GE.ge v2 (0 : Int)))) := go (by kernel_rfl) (by kernel_rfl) (tN_ zWw) (by kernel_rfl)
noncomputable def zDQ (p3 : PV) (l4 : List PV) (i5 i6 : Int) (l7 l8 l9 l10 : List PV) : Option PV := (lN_ zUP) [0, 1, 0, 1, 1] 5 (St.mk [(1, AV.pv p3), (4, AV.own 0 0), (5, AV.own 3 0), (13, AV.pv (PV.slice 0 l4)), (14, AV.pv (PV.int .i64 i5)), (15, AV.pv (PV.int .i64 i6))] [Ob.var false 3 (AV.agg [AV.nil 0, AV.nil 0]), Ob.row false 0 0 l7, Ob.row false 0 0 l8, Ob.var false 3 (AV.agg [AV.pv (PV.slice 0 l9), AV.view 4 0 none]), Ob.row false 0 0 l10])
theorem zGF (p3 : PV) (l4 : List PV) (i5 i6 : Int) (l7 l8 l9 l10 : List PV) : zDQ p3 l4 i5 i6 l7 l8 l9 l10 =
 bif decide (i6 < i5) then bif decide ((0 : Int) ≤ i6) then (l4[Int.toNat i6]?).bind fun v11 => c_s3 v11 fun v12 => (PV.asFn p3).bind fun v13 => (wc W (Prod.fst v13) (((Prod.fst (Prod.snd v13)) ++ [PV.slice 3 v12]) ++ (Prod.snd (Prod.snd v13)))).bind fun v14 => c_b v14 fun v15 => bif v15 then (wc W zB6 [PV.slice 3 v12]).bind fun v16 => c_s3 v16 fun v17 => bif true && (decide (((List.length l10) + 1 : Nat) ≤ 4294967296)) then zDQ p3 l4 i5 (IntKind.wrap .i64 (i6 + (1 : Int) : Int)) l7 l8 l9 (l10 ++ [PV.slice 3 v17]) else none else zDQ p3 l4 i5 (IntKind.wrap .i64 (i6 + (1 : Int) : Int)) l7 l8 l9 l10 else none else some (PV.agg [PV.slice 0 l9, PV.slice 0 l10]) := ((tN_ zUP).loop [1, 1, 0, 1, 0] 5 _ rfl).trans (by kernel_rfl)
theorem zRN (a0_0 a0_1 : List PV) (a1 : PV) : wc W zIe [PV.agg [PV.slice 0 a0_0, PV.slice 0 a0_1], a1] =
 (wc W zA1 [PV.slice 0 a0_0]).bind fun v1 => c_s0 v1 fun v2 => zDQ a1 a0_1 (((List.length a0_1) : Nat) : Int) (0 : Int) [] [] v2 [] := go (by kernel_rfl) (by kernel_rfl) (tN_ zUP) (by kernel_rfl)
theorem zNh (a0 c0 c1_0 c1_1 : List PV) : wc W zE0 [PV.slice 3 a0, PV.imm 0 (PV.slice 6 c0) 0, PV.imm 3 (PV.agg [PV.slice 0 c1_0, PV.slice 0 c1_1]) 0] =
 (wc W zX [PV.slice 6 c0, PV.fn zDI [] [PV.imm 3 (PV.agg [PV.slice 0 c1_0, PV.slice 0 c1_1]) 0, PV.imm 0 (PV.slice 3 a0) 0]]).bind fun v1 => c_b v1 fun v2 => some (PV.bool !v2) := go (by kernel_rfl) (by kernel_rfl) (tN_ zWx) (by kernel_rfl)
theorem zBy (a0 : List PV) (a1 : PV) : wc W zX [PV.slice 6 a0, a1] =
 (wc W zAI [PV.slice 6 a0, a1]).bind fun v1 => zA6 v1 fun v2 => some (PV.bool (decide (GE.ge v2 (0 : Int)))) := go (by kernel_rfl) (by kernel_rfl) (tN_ zWy) (by kernel_rfl)
theorem zLK (a0_0 a0_1 a0_2 a0_3 : Int) (a0_4 c0_0 c0_1 c1 : List PV) : wc W zDI [PV.agg [PV.int .i64 a0_0, PV.int .i64 a0_1, PV.int .i64 a0_2, PV.int .i64 a0_3, PV.slice 6 a0_4], PV.imm 3 (PV.agg [PV.slice 0 c0_0, PV.slice 0 c0_1]) 0, PV.imm 0 (PV.slice 3 c1) 0] =
 (wc W zFu [PV.agg [PV.int .i64 a0_0, PV.int .i64 a0_1, PV.int .i64 a0_2, PV.int .i64 a0_3, PV.slice 6 a0_4], PV.slice 0 c0_0, PV.slice 3 c1]).bind fun v1 => c_b v1 fun v2 => some (PV.bool !v2) := go (by kernel_rfl) (by kernel_rfl) (tN_ zWz) (by kernel_rfl)
theorem zNi (a0_0 a0_1 a0_2 a0_3 : Int) (a0_4 a1 a2 : List PV) : wc W zFu [PV.agg [PV.int .i64 a0_0, PV.int .i64 a0_1, PV.int .i64 a0_2, PV.int .i64 a0_3, PV.slice 6 a0_4], PV.slice 0 a1, PV.slice 3 a2] =
 (wc W zHL [PV.agg [PV.int .i64 a0_0, PV.int .i64 a0_1, PV.int .i64 a0_2, PV.int .i64 a0_3, PV.slice 6 a0_4], PV.slice 0 a1, PV.slice 3 a2]).bind fun v1 => zD v1 fun v2 v3 => (wc W zEp [PV.agg [PV.int .i64 v2, PV.int .i64 v3]]).bind fun v4 => c_b v4 fun v5 => some (PV.bool v5) := go (by kernel_rfl) (by kernel_rfl) (tN_ zXA) (by kernel_rfl)
theorem zHv (l0 l1 : List PV) (i2 : Int) : W zAl false [AV.pv (PV.slice 3 l0), AV.pv (PV.imm 2 (PV.agg [PV.slice 3 l1]) 0), AV.own 0 0] [Ob.var false 0 (AV.pv (PV.int .i64 i2))] =
 bif decide ((0 : Int) ≤ i2) then (l1[Int.toNat i2]?).bind fun v1 => (PV.load 3 v1 0 0).bind fun v2 => zA6 v2 fun v3 => (wc W zIf [PV.slice 3 l0, PV.int .i64 v3]).bind fun v4 => c_b v4 fun v5 => some (AV.pv (PV.bool !v5), [Ob.var false 0 (AV.pv (PV.int .i64 i2))]) else none := goO (by kernel_rfl) (by kernel_rfl) (tO_ zXB false 1) rfl (by kernel_rfl)
theorem zRO (a0 : List PV) (a1 : Int) : wc W zIf [PV.slice 3 a0, PV.int .i64 a1] =
 bif (((List.length a0) : Nat) : Int) == a1 then (wc W zI [PV.slice 3 a0, PV.fn zE2 [] []]).bind fun v1 => c_b v1 fun v2 => some (PV.bool !v2) else some (PV.bool false) := go (by kernel_rfl) (by kernel_rfl) (tN_ zXC) (by kernel_rfl)
theorem zBP (l0 l1 : List PV) (i2 : Int) : W zT false [AV.pv (PV.slice 0 l0), AV.fnv zAl [] [AV.pv (PV.imm 2 (PV.agg [PV.slice 3 l1]) 0), AV.own 0 0]] [Ob.var false 0 (AV.pv (PV.int .i64 i2))] =
 (W zAb false [AV.pv (PV.slice 0 l0), AV.fnv zAl [] [AV.pv (PV.imm 2 (PV.agg [PV.slice 3 l1]) 0), AV.own 0 0]] [Ob.var false 0 (AV.pv (PV.int .i64 i2))]).bind fun v4 => zFP v4 fun v5 v6 => zA6 v5 fun v7 => some (AV.pv (PV.bool (decide (GE.ge v7 (0 : Int)))), [Ob.var false 0 (AV.pv (PV.int .i64 v6))]) := goO (by kernel_rfl) (by kernel_rfl) (tO_ zXD false 1) rfl (by kernel_rfl)
noncomputable def zZ (l1 l2 : List PV) (i3 : Int) (l4 l5 : List PV) (i6 : Int) (b7 : Bool) : Option PV := (jN_ zN6) [1, 1] (St.mk [(3, AV.pv (PV.imm 7 (PV.agg [PV.slice 0 l1, PV.slice 6 l2, PV.int .i64 i3, PV.slice 0 l4, PV.slice 0 l5, PV.int .i64 i6]) 0)), (5, AV.pv (PV.bool b7))] [])
noncomputable def zBK (l8 l9 : List PV) (i10 : Int) (l11 l12 : List PV) (i13 : Int) (b14 : Bool) (i15 : Int) : Option PV := (lN_ zN6) [0, 1, 0, 1, 1] 0 (St.mk [(3, AV.pv (PV.imm 7 (PV.agg [PV.slice 0 l8, PV.slice 6 l9, PV.int .i64 i10, PV.slice 0 l11, PV.slice 0 l12, PV.int .i64 i13]) 0)), (5, AV.pv (PV.bool b14)), (6, AV.pv (PV.int .i64 i15))] [])
noncomputable def zDR (l16 l17 : List PV) (i18 : Int) (l19 l20 : List PV) (i21 i22 : Int) : Option PV := (jN_ zN6) [1, 0, 0, 1, 0, 1, 1] (St.mk [(3, AV.pv (PV.imm 7 (PV.agg [PV.slice 0 l16, PV.slice 6 l17, PV.int .i64 i18, PV.slice 0 l19, PV.slice 0 l20, PV.int .i64 i21]) 0)), (6, AV.pv (PV.int .i64 i22))] [])
theorem zEs (l1 l2 : List PV) (i3 : Int) (l4 l5 : List PV) (i6 : Int) (b7 : Bool) : zZ l1 l2 i3 l4 l5 i6 b7 =
 zBK l1 l2 i3 l4 l5 i6 b7 (0 : Int) := ((tN_ zN6).join [1, 1] _).trans (by kernel_rfl)
theorem zC4 (l8 l9 : List PV) (i10 : Int) (l11 l12 : List PV) (i13 : Int) (b14 : Bool) (i15 : Int) : zBK l8 l9 i10 l11 l12 i13 b14 i15 =
 bif decide (i15 < (((List.length l9) : Nat) : Int)) then bif b14 then zDR l8 l9 i10 l11 l12 i13 i15 else some (PV.bool b14) else some (PV.bool b14) := ((tN_ zN6).loop [1, 1, 0, 1, 0] 0 _ rfl).trans (by kernel_rfl)
theorem zEt (l16 l17 : List PV) (i18 : Int) (l19 l20 : List PV) (i21 i22 : Int) : zDR l16 l17 i18 l19 l20 i21 i22 =
 bif decide ((0 : Int) ≤ i22) then (l17[Int.toNat i22]?).bind fun v23 => zG v23 fun v24 v25 v26 v27 v28 => (wc W zCW [PV.agg [PV.int .i64 v24, PV.int .i64 v25, PV.int .i64 v26, PV.int .i64 v27, PV.slice 6 v28], PV.int .i64 (60 : Int)]).bind fun v29 => c_b v29 fun v30 => zBK l16 l17 i18 l19 l20 i21 v30 (IntKind.wrap .i64 (i22 + (1 : Int) : Int)) else none := ((tN_ zN6).join [1, 1, 0, 1, 0, 0, 1] _).trans (by kernel_rfl)
theorem zHV (a0_0 a1_0 a1_1 : List PV) (a1_2 : Int) (a1_3 a1_4 : List PV) (a1_5 : Int) : wc W zAv [PV.agg [PV.slice 3 a0_0], PV.agg [PV.slice 0 a1_0, PV.slice 6 a1_1, PV.int .i64 a1_2, PV.slice 0 a1_3, PV.slice 0 a1_4, PV.int .i64 a1_5]] =
 bif decide ((((List.length a0_0) : Nat) : Int) ≤ (10 : Int)) then bif decide ((((List.length a1_0) : Nat) : Int) ≤ (20 : Int)) then bif decide ((((List.length a1_1) : Nat) : Int) ≤ (8 : Int)) then bif decide ((((List.length a1_3) : Nat) : Int) ≤ (20 : Int)) then zZ a1_0 a1_1 a1_2 a1_3 a1_4 a1_5 (decide ((((List.length a1_4) : Nat) : Int) ≤ (20 : Int))) else zZ a1_0 a1_1 a1_2 a1_3 a1_4 a1_5 false else zZ a1_0 a1_1 a1_2 a1_3 a1_4 a1_5 false else zZ a1_0 a1_1 a1_2 a1_3 a1_4 a1_5 false else zZ a1_0 a1_1 a1_2 a1_3 a1_4 a1_5 false := go (by kernel_rfl) (by kernel_rfl) (tN_ zN6) (by kernel_rfl)
noncomputable def zAT (l1 : List PV) (b2 : Bool) (i3 : Int) : Option PV := (lN_ zLH) [0, 1, 0, 1, 1] 0 (St.mk [(1, AV.pv (PV.imm 2 (PV.agg [PV.slice 0 l1]) 0)), (3, AV.pv (PV.bool b2)), (4, AV.pv (PV.int .i64 i3))] [])
noncomputable def zDS (l4 : List PV) (i5 : Int) : Option PV := (jN_ zLH) [1, 0, 0, 1, 0, 1, 1] (St.mk [(1, AV.pv (PV.imm 2 (PV.agg [PV.slice 0 l4]) 0)), (4, AV.pv (PV.int .i64 i5))] [])
noncomputable def zBL (l8 : List PV) (b9 : Bool) (i10 i11 : Int) : Option PV := (lN_ zLH) [0, 1, 1, 0, 0, 1, 0, 0, 1, 0, 1, 1] 0 (St.mk [(1, AV.pv (PV.imm 2 (PV.agg [PV.slice 0 l8]) 0)), (3, AV.pv (PV.bool b9)), (4, AV.pv (PV.int .i64 i10)), (5, AV.pv (PV.int .i64 i11))] [])
noncomputable def zDT (l14 : List PV) (i15 i16 : Int) : Option PV := (jN_ zLH) [1, 0, 0, 1, 1, 0, 0, 1, 0, 0, 1, 0, 1, 1] (St.mk [(1, AV.pv (PV.imm 2 (PV.agg [PV.slice 0 l14]) 0)), (4, AV.pv (PV.int .i64 i15)), (5, AV.pv (PV.int .i64 i16))] [])
theorem zC5 (l1 : List PV) (b2 : Bool) (i3 : Int) : zAT l1 b2 i3 =
 bif decide (i3 < (((List.length l1) : Nat) : Int)) then bif b2 then zDS l1 i3 else some (PV.bool b2) else some (PV.bool b2) := ((tN_ zLH).loop [1, 1, 0, 1, 0] 0 _ rfl).trans (by kernel_rfl)
theorem zEu (l4 : List PV) (i5 : Int) : zDS l4 i5 =
 bif decide ((0 : Int) ≤ i5) then (l4[Int.toNat i5]?).bind fun v6 => c_s0 v6 fun v7 => zBL l4 (decide ((((List.length v7) : Nat) : Int) ≤ (20 : Int))) i5 (0 : Int) else none := ((tN_ zLH).join [1, 1, 0, 1, 0, 0, 1] _).trans (by kernel_rfl)
theorem zC6 (l8 : List PV) (b9 : Bool) (i10 i11 : Int) : zBL l8 b9 i10 i11 =
 bif decide ((0 : Int) ≤ i10) then (l8[Int.toNat i10]?).bind fun v12 => c_s0 v12 fun v13 => bif decide (i11 < (((List.length v13) : Nat) : Int)) then bif b9 then zDT l8 i10 i11 else zAT l8 b9 (IntKind.wrap .i64 (i10 + (1 : Int) : Int)) else zAT l8 b9 (IntKind.wrap .i64 (i10 + (1 : Int) : Int)) else none := ((tN_ zLH).loop [1, 1, 0, 1, 0, 0, 1, 0, 0, 1, 1, 0] 0 _ rfl).trans (by kernel_rfl)
theorem zEv (l14 : List PV) (i15 i16 : Int) : zDT l14 i15 i16 =
 bif decide ((0 : Int) ≤ i15) then (l14[Int.toNat i15]?).bind fun v17 => c_s0 v17 fun v18 => bif decide ((0 : Int) ≤ i16) then (v18[Int.toNat i16]?).bind fun v19 => c_s3 v19 fun v20 => zBL l14 (decide ((((List.length v20) : Nat) : Int) ≤ (20 : Int))) i15 (IntKind.wrap .i64 (i16 + (1 : Int) : Int)) else none else none := ((tN_ zLH).join [1, 1, 0, 1, 0, 0, 1, 0, 0, 1, 1, 0, 0, 1] _).trans (by kernel_rfl)
theorem zHW (a0_0 : List PV) : wc W zCV [PV.agg [PV.slice 0 a0_0]] =
 zAT a0_0 (decide ((((List.length a0_0) : Nat) : Int) ≤ (10 : Int))) (0 : Int) := go (by kernel_rfl) (by kernel_rfl) (tN_ zLH) (by kernel_rfl)
theorem zSv (a0 a1 a2 : Int) : wc W zCh [PV.int .i64 a0, PV.int .i64 a1, PV.int .i64 a2] =
 bif decide (GE.ge a0 a1) then some (PV.bool (decide (a0 ≤ a2))) else some (PV.bool false) := go (by kernel_rfl) (by kernel_rfl) (tN_ zXE) (by kernel_rfl)
noncomputable def zJO (i5 i6 : Int) : Option PV := (jN_ zUQ) [1, 1] (St.mk [(0, AV.pv (PV.int .i64 i5)), (1, AV.pv (PV.int .i64 i6))] [])
theorem zKq (i5 i6 : Int) : zJO i5 i6 =
 some (PV.int .i64 (IntKind.wrap .i64 ((IntKind.wrap .i64 ((4 : Int) * i5 : Int)) + i6 : Int))) := ((tN_ zUQ).join [1, 1] _).trans (by kernel_rfl)
theorem zRP (a0 a1 : Int) : wc W zEo [PV.int .i64 a0, PV.int .i64 a1] =
 (wc W zCh [PV.int .i64 a0, PV.int .i64 (0 : Int), PV.int .i64 (3 : Int)]).bind fun v1 => c_b v1 fun v2 => bif !v2 then some (PV.int .i64 (-1 : Int)) else (wc W zCh [PV.int .i64 a1, PV.int .i64 (0 : Int), PV.int .i64 (3 : Int)]).bind fun v3 => c_b v3 fun v4 => bif !v4 then some (PV.int .i64 (-1 : Int)) else zJO a0 a1 := go (by kernel_rfl) (by kernel_rfl) (tN_ zUQ) (by kernel_rfl)
noncomputable def zAa (l1 : List PV) (i2 : Int) (l3 : List PV) (i4 i5 : Int) : Option PV := (lN_ zQw) [0, 1, 0, 1, 1] 0 (St.mk [(0, AV.pv (PV.slice 0 l1)), (3, AV.pv (PV.int .i64 i2)), (9, AV.pv (PV.slice 0 l3)), (10, AV.pv (PV.int .i64 i4)), (11, AV.pv (PV.int .i64 i5))] [])
noncomputable def zAK (l11 : List PV) (i12 i13 : Int) (l14 : List PV) : Option PV := (lN_ zQw) [0, 1, 0, 1, 1, 1, 1] 1 (St.mk [(6, AV.view 0 0 none), (25, AV.pv (PV.slice 0 l11)), (26, AV.pv (PV.int .i64 i12)), (27, AV.pv (PV.int .i64 i13))] [Ob.row false 0 0 l14])
theorem zBj (l1 : List PV) (i2 : Int) (l3 : List PV) (i4 i5 : Int) : zAa l1 i2 l3 i4 i5 =
 bif decide (i5 < i4) then bif decide ((0 : Int) ≤ i5) then (l3[Int.toNat i5]?).bind fun v6 => c_s0 v6 fun v7 => bif decide ((IntKind.wrap .i64 (i2 + (((List.length v7) : Nat) : Int) : Int)) < (0 : Int)) then none else zAa l1 (IntKind.wrap .i64 (i2 + (((List.length v7) : Nat) : Int) : Int)) l3 i4 (IntKind.wrap .i64 (i5 + (1 : Int) : Int)) else none else (W zBu true [AV.nil 0, AV.pv (PV.int .i64 i2)] []).bind fun v9 => zMX v9 fun v10 => zAK l1 (((List.length l1) : Nat) : Int) (0 : Int) v10 := ((tN_ zQw).loop [1, 1, 0, 1, 0] 0 _ rfl).trans (by kernel_rfl)
theorem zBk (l11 : List PV) (i12 i13 : Int) (l14 : List PV) : zAK l11 i12 i13 l14 =
 bif decide (i13 < i12) then bif decide ((0 : Int) ≤ i13) then (l11[Int.toNat i13]?).bind fun v15 => c_s0 v15 fun v16 => bif true && (decide (((List.length l14) + (List.length v16) : Nat) ≤ 4294967296)) then zAK l11 i12 (IntKind.wrap .i64 (i13 + (1 : Int) : Int)) (l14 ++ v16) else none else none else some (PV.slice 0 l14) := ((tN_ zQw).loop [1, 1, 1, 1, 0, 1, 0] 1 _ rfl).trans (by kernel_rfl)
theorem zFS (a0 : List PV) : wc W zBa [PV.slice 0 a0] =
 zAa a0 (0 : Int) a0 (((List.length a0) : Nat) : Int) (0 : Int) := go (by kernel_rfl) (by kernel_rfl) (tN_ zQw) (by kernel_rfl)
noncomputable def zV (l1 : List PV) (i2 : Int) (l3 : List PV) (i4 i5 : Int) : Option PV := (lN_ zQx) [0, 1, 0, 1, 1] 0 (St.mk [(0, AV.pv (PV.slice 0 l1)), (3, AV.pv (PV.int .i64 i2)), (9, AV.pv (PV.slice 0 l3)), (10, AV.pv (PV.int .i64 i4)), (11, AV.pv (PV.int .i64 i5))] [])
noncomputable def zN (l11 : List PV) (i12 i13 : Int) (l14 : List PV) : Option PV := (lN_ zQx) [0, 1, 0, 1, 1, 1, 1] 1 (St.mk [(6, AV.view 0 0 none), (25, AV.pv (PV.slice 0 l11)), (26, AV.pv (PV.int .i64 i12)), (27, AV.pv (PV.int .i64 i13))] [Ob.row false 0 3 l14])
theorem zAq (l1 : List PV) (i2 : Int) (l3 : List PV) (i4 i5 : Int) : zV l1 i2 l3 i4 i5 =
 bif decide (i5 < i4) then bif decide ((0 : Int) ≤ i5) then (l3[Int.toNat i5]?).bind fun v6 => c_s3 v6 fun v7 => bif decide ((IntKind.wrap .i64 (i2 + (((List.length v7) : Nat) : Int) : Int)) < (0 : Int)) then none else zV l1 (IntKind.wrap .i64 (i2 + (((List.length v7) : Nat) : Int) : Int)) l3 i4 (IntKind.wrap .i64 (i5 + (1 : Int) : Int)) else none else (W zAi true [AV.nil 3, AV.pv (PV.int .i64 i2)] []).bind fun v9 => zQC v9 fun v10 => zN l1 (((List.length l1) : Nat) : Int) (0 : Int) v10 := ((tN_ zQx).loop [1, 1, 0, 1, 0] 0 _ rfl).trans (by kernel_rfl)
theorem zAr (l11 : List PV) (i12 i13 : Int) (l14 : List PV) : zN l11 i12 i13 l14 =
 bif decide (i13 < i12) then bif decide ((0 : Int) ≤ i13) then (l11[Int.toNat i13]?).bind fun v15 => c_s3 v15 fun v16 => bif true && (decide (((List.length l14) + (List.length v16) : Nat) ≤ 4294967296)) then zN l11 i12 (IntKind.wrap .i64 (i13 + (1 : Int) : Int)) (l14 ++ v16) else none else none else some (PV.slice 3 l14) := ((tN_ zQx).loop [1, 1, 1, 1, 0, 1, 0] 1 _ rfl).trans (by kernel_rfl)
theorem zDD (a0 : List PV) : wc W zA5 [PV.slice 0 a0] =
 zV a0 (0 : Int) a0 (((List.length a0) : Nat) : Int) (0 : Int) := go (by kernel_rfl) (by kernel_rfl) (tN_ zQx) (by kernel_rfl)
theorem zCJ (a0 : List PV) (a1 : PV) : wc W zAF [PV.slice 3 a0, a1] =
 (wc W zAV [PV.slice 3 a0, a1]).bind fun v1 => zA6 v1 fun v2 => some (PV.bool (decide (GE.ge v2 (0 : Int)))) := go (by kernel_rfl) (by kernel_rfl) (tN_ zXF) (by kernel_rfl)
theorem zNj (a0_0 a0_1 : Int) : wc W zE1 [PV.agg [PV.int .i64 a0_0, PV.int .i64 a0_1]] =
 (wc W zIg [PV.agg [PV.int .i64 a0_0, PV.int .i64 a0_1]]).bind fun v1 => c_b v1 fun v2 => some (PV.bool !v2) := go (by kernel_rfl) (by kernel_rfl) (tN_ zXG) (by kernel_rfl)
theorem zRQ (a0_0 a0_1 : Int) : wc W zIg [PV.agg [PV.int .i64 a0_0, PV.int .i64 a0_1]] =
 ((bif a0_0 == (0 : Int) then bif a0_1 == (0 : Int) then some true else some false else some false).bind fun v1 => some (PV.bool !v1)).bind fun v2 => c_b v2 fun v3 => bif v3 then (wc W zCh [PV.int .i64 a0_0, PV.int .i64 (1 : Int), PV.int .i64 (4 : Int)]).bind fun v4 => c_b v4 fun v5 => bif v5 then (wc W zCh [PV.int .i64 a0_1, PV.int .i64 (1 : Int), PV.int .i64 (1000000 : Int)]).bind fun v6 => c_b v6 fun v7 => some (PV.bool v7) else some (PV.bool false) else some (PV.bool false) := go (by kernel_rfl) (by kernel_rfl) (tN_ zXH) (by kernel_rfl)
noncomputable def zAU (l1 : List PV) (p2 : PV) (i3 i4 : Int) : Option PV := (lN_ zUR) [0, 1, 0, 1] 0 (St.mk [(0, AV.pv (PV.slice 0 l1)), (1, AV.pv p2), (7, AV.pv (PV.int .i64 i3)), (8, AV.pv (PV.int .i64 i4))] [])
theorem zB0 (l1 : List PV) (p2 : PV) (i3 i4 : Int) : zAU l1 p2 i3 i4 =
 bif decide (i4 < i3) then bif decide ((0 : Int) ≤ i4) then (l1[Int.toNat i4]?).bind fun v5 => zA6 v5 fun v6 => (PV.asFn p2).bind fun v7 => (wc W (Prod.fst v7) (((Prod.fst (Prod.snd v7)) ++ [PV.int .i64 v6]) ++ (Prod.snd (Prod.snd v7)))).bind fun v8 => c_b v8 fun v9 => bif v9 then some (PV.int .i64 i4) else zAU l1 p2 i3 (IntKind.wrap .i64 (i4 + (1 : Int) : Int)) else none else some (PV.int .i64 (-1 : Int)) := ((tN_ zUR).loop [1, 0, 1, 0] 0 _ rfl).trans (by kernel_rfl)
theorem zEP (a0 : List PV) (a1 : PV) : wc W zBB [PV.slice 0 a0, a1] =
 zAU a0 a1 (((List.length a0) : Nat) : Int) (0 : Int) := go (by kernel_rfl) (by kernel_rfl) (tN_ zUR) (by kernel_rfl)
theorem zRR (a0_0 a0_1 a0_2 a0_3 : Int) (a0_4 : List PV) : wc W zG5 [PV.agg [PV.int .i64 a0_0, PV.int .i64 a0_1, PV.int .i64 a0_2, PV.int .i64 a0_3, PV.slice 6 a0_4]] =
 (W zBs false [AV.pv (PV.agg [PV.int .i64 a0_0, PV.int .i64 a0_1, PV.int .i64 a0_2, PV.int .i64 a0_3, PV.slice 6 a0_4]), AV.pv (PV.int .i64 (1 : Int)), AV.fnv zB7 [] [AV.own 0 0]] [Ob.var false 0 (AV.pv (PV.int .i64 (0 : Int)))]).bind fun v8 => zFP v8 fun v9 v10 => c_b v9 fun v11 => some (PV.bool v11) := go (by kernel_rfl) (by kernel_rfl) (tN_ zXI) (by kernel_rfl)
end Go.Cf

namespace Go.Cf
open Go Go.Ab
set_option linter.unusedVariables false
set_option maxRecDepth 100000
noncomputable def zCQ (i12 : Int) (l13 : List PV) (i14 i15 i16 : Int) : Option (AV × List Ob) := (lO_ zOu false 1) [0, 1, 0, 1, 1] 1 (St.mk [(1, AV.pv (PV.int .i64 i12)), (2, AV.fnv zB7 [] [AV.own 0 0]), (15, AV.pv (PV.slice 6 l13)), (16, AV.pv (PV.int .i64 i14)), (17, AV.pv (PV.int .i64 i15))] [Ob.var false 0 (AV.pv (PV.int .i64 i16))])
theorem zEG (i12 : Int) (l13 : List PV) (i14 i15 i16 : Int) : zCQ i12 l13 i14 i15 i16 =
 bif decide (i15 < i14) then bif decide ((0 : Int) ≤ i15) then (l13[Int.toNat i15]?).bind fun v17 => zG v17 fun v18 v19 v20 v21 v22 => (W zBs false [AV.pv (PV.agg [PV.int .i64 v18, PV.int .i64 v19, PV.int .i64 v20, PV.int .i64 v21, PV.slice 6 v22]), AV.pv (PV.int .i64 (IntKind.wrap .i64 (i12 + (1 : Int) : Int))), AV.fnv zB7 [] [AV.own 0 0]] [Ob.var false 0 (AV.pv (PV.int .i64 i16))]).bind fun v30 => zFP v30 fun v31 v32 => c_b v31 fun v33 => bif !v33 then some (AV.pv (PV.bool false), [Ob.var false 0 (AV.pv (PV.int .i64 v32))]) else zCQ i12 l13 i14 (IntKind.wrap .i64 (i15 + (1 : Int) : Int)) v32 else none else some (AV.pv (PV.bool true), [Ob.var false 0 (AV.pv (PV.int .i64 i16))]) := ((tO_ zOu false 1).loop [1, 1, 0, 1, 0] 1 _ rfl).trans (by kernel_rfl)
theorem zJ2 (i0 i1 i2 i3 : Int) (l4 : List PV) (i5 i6 : Int) : W zBs false [AV.pv (PV.agg [PV.int .i64 i0, PV.int .i64 i1, PV.int .i64 i2, PV.int .i64 i3, PV.slice 6 l4]), AV.pv (PV.int .i64 i5), AV.fnv zB7 [] [AV.own 0 0]] [Ob.var false 0 (AV.pv (PV.int .i64 i6))] =
 (W zB7 false [AV.pv (PV.agg [PV.int .i64 i0, PV.int .i64 i1, PV.int .i64 i2, PV.int .i64 i3, PV.slice 6 l4]), AV.pv (PV.int .i64 i5), AV.own 0 0] [Ob.var false 0 (AV.pv (PV.int .i64 i6))]).bind fun v8 => zFP v8 fun v9 v10 => c_b v9 fun v11 => bif !v11 then some (AV.pv (PV.bool false), [Ob.var false 0 (AV.pv (PV.int .i64 v10))]) else zCQ i5 l4 (((List.length l4) : Nat) : Int) (0 : Int) v10 := goO (by kernel_rfl) (by kernel_rfl) (tO_ zOu false 1) rfl (by kernel_rfl)
noncomputable def zCR (i12 : Int) (l13 : List PV) (i14 i15 : Int) (l16 : List PV) : Option (AV × List Ob) := (lO_ zOu false 2) [0, 1, 0, 1, 1] 2 (St.mk [(1, AV.pv (PV.int .i64 i12)), (2, AV.fnv zBH [] [AV.own 0 0]), (15, AV.pv (PV.slice 6 l13)), (16, AV.pv (PV.int .i64 i14)), (17, AV.pv (PV.int .i64 i15))] [Ob.var false 0 (AV.view 1 0 none), Ob.row false 0 0 l16])
theorem zEH (i12 : Int) (l13 : List PV) (i14 i15 : Int) (l16 : List PV) : zCR i12 l13 i14 i15 l16 =
 bif decide (i15 < i14) then bif decide ((0 : Int) ≤ i15) then (l13[Int.toNat i15]?).bind fun v17 => zG v17 fun v18 v19 v20 v21 v22 => (W zBs false [AV.pv (PV.agg [PV.int .i64 v18, PV.int .i64 v19, PV.int .i64 v20, PV.int .i64 v21, PV.slice 6 v22]), AV.pv (PV.int .i64 (IntKind.wrap .i64 (i12 + (1 : Int) : Int))), AV.fnv zBH [] [AV.own 0 0]] [Ob.var false 0 (AV.view 1 0 none), Ob.row false 0 0 l16]).bind fun v30 => zJl v30 fun v31 v32 => c_b v31 fun v33 => bif !v33 then some (AV.pv (PV.bool false), [Ob.var false 0 (AV.view 1 0 none), Ob.row false 0 0 v32]) else zCR i12 l13 i14 (IntKind.wrap .i64 (i15 + (1 : Int) : Int)) v32 else none else some (AV.pv (PV.bool true), [Ob.var false 0 (AV.view 1 0 none), Ob.row false 0 0 l16]) := ((tO_ zOu false 2).loop [1, 1, 0, 1, 0] 2 _ rfl).trans (by kernel_rfl)
theorem zJ3 (i0 i1 i2 i3 : Int) (l4 : List PV) (i5 : Int) (l6 : List PV) : W zBs false [AV.pv (PV.agg [PV.int .i64 i0, PV.int .i64 i1, PV.int .i64 i2, PV.int .i64 i3, PV.slice 6 l4]), AV.pv (PV.int .i64 i5), AV.fnv zBH [] [AV.own 0 0]] [Ob.var false 0 (AV.view 1 0 none), Ob.row false 0 0 l6] =
 (W zBH false [AV.pv (PV.agg [PV.int .i64 i0, PV.int .i64 i1, PV.int .i64 i2, PV.int .i64 i3, PV.slice 6 l4]), AV.pv (PV.int .i64 i5), AV.own 0 0] [Ob.var false 0 (AV.view 1 0 none), Ob.row false 0 0 l6]).bind fun v8 => zJl v8 fun v9 v10 => c_b v9 fun v11 => bif !v11 then some (AV.pv (PV.bool false), [Ob.var false 0 (AV.view 1 0 none), Ob.row false 0 0 v10]) else zCR i5 l4 (((List.length l4) : Nat) : Int) (0 : Int) v10 := goO (by kernel_rfl) (by kernel_rfl) (tO_ zOu false 2) rfl (by kernel_rfl)
theorem zHw (i0 i1 i2 i3 : Int) (l4 : List PV) (i5 : Int) (l6 : List PV) : W zBH false [AV.pv (PV.agg [PV.int .i64 i0, PV.int .i64 i1, PV.int .i64 i2, PV.int .i64 i3, PV.slice 6 l4]), AV.pv (PV.int .i64 i5), AV.own 0 0] [Ob.var false 0 (AV.view 1 0 none), Ob.row false 0 0 l6] =
 bif i0 == (1 : Int) then bif true && (decide (((List.length l6) + 1 : Nat) ≤ 4294967296)) then some (AV.pv (PV.bool true), [Ob.var false 0 (AV.view 1 0 none), Ob.row false 0 0 (l6 ++ [PV.int .i64 i1])]) else none else some (AV.pv (PV.bool true), [Ob.var false 0 (AV.view 1 0 none), Ob.row false 0 0 l6]) := goO (by kernel_rfl) (by kernel_rfl) (tO_ zXJ false 2) rfl (by kernel_rfl)
theorem zJ4 (a0 : Int) (c0 : List PV) : wc W zDV [PV.int .i64 a0, PV.imm 0 (PV.slice 0 c0) 0] =
 (wc W zA9 [PV.slice 0 c0, PV.int .i64 a0]).bind fun v1 => c_b v1 fun v2 => some (PV.bool !v2) := go (by kernel_rfl) (by kernel_rfl) (tN_ zXK) (by kernel_rfl)
theorem zHx (i0 i1 i2 i3 : Int) : W zCB false [AV.pv (PV.int .i64 i0), AV.own 0 0, AV.own 1 0, AV.own 2 0] [Ob.var false 0 (AV.pv (PV.int .i64 i1)), Ob.var false 0 (AV.pv (PV.int .i64 i2)), Ob.var false 0 (AV.pv (PV.int .i64 i3))] =
 (wc W zAS [PV.int .i64 i1, PV.int .i64 i0]).bind fun v1 => c_b v1 fun v2 => bif v2 then (wc W zAS [PV.int .i64 i2, PV.int .i64 i0]).bind fun v3 => c_b v3 fun v4 => bif !v4 then (wc W zAS [PV.int .i64 i3, PV.int .i64 i0]).bind fun v5 => c_b v5 fun v6 => some (AV.pv (PV.bool !v6), [Ob.var false 0 (AV.pv (PV.int .i64 i1)), Ob.var false 0 (AV.pv (PV.int .i64 i2)), Ob.var false 0 (AV.pv (PV.int .i64 i3))]) else some (AV.pv (PV.bool false), [Ob.var false 0 (AV.pv (PV.int .i64 i1)), Ob.var false 0 (AV.pv (PV.int .i64 i2)), Ob.var false 0 (AV.pv (PV.int .i64 i3))]) else some (AV.pv (PV.bool false), [Ob.var false 0 (AV.pv (PV.int .i64 i1)), Ob.var false 0 (AV.pv (PV.int .i64 i2)), Ob.var false 0 (AV.pv (PV.int .i64 i3))]) := goO (by kernel_rfl) (by kernel_rfl) (tO_ zXL false 3) rfl (by kernel_rfl)
theorem zU2 (a0 : Int) : wc W zDJ [PV.int .i64 a0] =
 some (PV.agg [PV.int .i64 (0 : Int), PV.int .i64 a0]) := go (by kernel_rfl) (by kernel_rfl) (tN_ zXM) (by kernel_rfl)
theorem zRS (a0_0 a0_1 a0_2 a0_3 : Int) (a0_4 : List PV) : wc W zG6 [PV.agg [PV.int .i64 a0_0, PV.int .i64 a0_1, PV.int .i64 a0_2, PV.int .i64 a0_3, PV.slice 6 a0_4]] =
 (wc W zFK [PV.agg [PV.int .i64 a0_0, PV.int .i64 a0_1, PV.int .i64 a0_2, PV.int .i64 a0_3, PV.slice 6 a0_4]]).bind fun v1 => c_s0 v1 fun v2 => (wc W zIi [PV.slice 0 v2]).bind fun v3 => zA6 v3 fun v4 => some (PV.int .i64 v4) := go (by kernel_rfl) (by kernel_rfl) (tN_ zXN) (by kernel_rfl)
noncomputable def zL (l1 : List PV) (p2 : PV) (i3 i4 : Int) : Option PV := (lN_ zUS) [0, 1, 0, 1] 0 (St.mk [(0, AV.pv (PV.slice 3 l1)), (1, AV.pv p2), (7, AV.pv (PV.int .i64 i3)), (8, AV.pv (PV.int .i64 i4))] [])
theorem zAW (l1 : List PV) (p2 : PV) (i3 i4 : Int) : zL l1 p2 i3 i4 =
 bif decide (i4 < i3) then bif decide ((0 : Int) ≤ i4) then (l1[Int.toNat i4]?).bind fun v5 => zD v5 fun v6 v7 => (PV.asFn p2).bind fun v8 => (wc W (Prod.fst v8) (((Prod.fst (Prod.snd v8)) ++ [PV.agg [PV.int .i64 v6, PV.int .i64 v7]]) ++ (Prod.snd (Prod.snd v8)))).bind fun v9 => c_b v9 fun v10 => bif v10 then some (PV.int .i64 i4) else zL l1 p2 i3 (IntKind.wrap .i64 (i4 + (1 : Int) : Int)) else none else some (PV.int .i64 (-1 : Int)) := ((tN_ zUS).loop [1, 0, 1, 0] 0 _ rfl).trans (by kernel_rfl)
theorem zBz (a0 : List PV) (a1 : PV) : wc W zY [PV.slice 3 a0, a1] =
 zL a0 a1 (((List.length a0) : Nat) : Int) (0 : Int) := go (by kernel_rfl) (by kernel_rfl) (tN_ zUS) (by kernel_rfl)
noncomputable def zO (l1 : List PV) (p2 : PV) (i3 i4 : Int) : Option PV := (lN_ zUT) [0, 1, 0, 1] 0 (St.mk [(0, AV.pv (PV.slice 6 l1)), (1, AV.pv p2), (7, AV.pv (PV.int .i64 i3)), (8, AV.pv (PV.int .i64 i4))] [])
theorem zA2 (l1 : List PV) (p2 : PV) (i3 i4 : Int) : zO l1 p2 i3 i4 =
 bif decide (i4 < i3) then bif decide ((0 : Int) ≤ i4) then (l1[Int.toNat i4]?).bind fun v5 => zG v5 fun v6 v7 v8 v9 v10 => (PV.asFn p2).bind fun v11 => (wc W (Prod.fst v11) (((Prod.fst (Prod.snd v11)) ++ [PV.agg [PV.int .i64 v6, PV.int .i64 v7, PV.int .i64 v8, PV.int .i64 v9, PV.slice 6 v10]]) ++ (Prod.snd (Prod.snd v11)))).bind fun v12 => c_b v12 fun v13 => bif v13 then some (PV.int .i64 i4) else zO l1 p2 i3 (IntKind.wrap .i64 (i4 + (1 : Int) : Int)) else none else some (PV.int .i64 (-1 : Int)) := ((tN_ zUT).loop [1, 0, 1, 0] 0 _ rfl).trans (by kernel_rfl)
theorem zCO (a0 : List PV) (a1 : PV) : wc W zAI [PV.slice 6 a0, a1] =
 zO a0 a1 (((List.length a0) : Nat) : Int) (0 : Int) := go (by kernel_rfl) (by kernel_rfl) (tN_ zUT) (by kernel_rfl)
theorem zRT (a0_0 a0_1 : Int) : wc W zEp [PV.agg [PV.int .i64 a0_0, PV.int .i64 a0_1]] =
 bif a0_0 == (0 : Int) then some (PV.bool (a0_1 != (0 : Int))) else some (PV.bool false) := go (by kernel_rfl) (by kernel_rfl) (tN_ zXP) (by kernel_rfl)
theorem zPG (a0_0 a0_1 a0_2 a0_3 : Int) (a0_4 a1 a2 : List PV) : wc W zHL [PV.agg [PV.int .i64 a0_0, PV.int .i64 a0_1, PV.int .i64 a0_2, PV.int .i64 a0_3, PV.slice 6 a0_4], PV.slice 0 a1, PV.slice 3 a2] =
 (wc W zG5 [PV.agg [PV.int .i64 a0_0, PV.int .i64 a0_1, PV.int .i64 a0_2, PV.int .i64 a0_3, PV.slice 6 a0_4]]).bind fun v1 => c_b v1 fun v2 => bif !v2 then some (PV.agg [PV.int .i64 (2 : Int), PV.int .i64 (0 : Int)]) else (wc W zFL [PV.agg [PV.int .i64 a0_0, PV.int .i64 a0_1, PV.int .i64 a0_2, PV.int .i64 a0_3, PV.slice 6 a0_4], PV.slice 0 a1, PV.slice 3 a2]).bind fun v3 => zD v3 fun v4 v5 => some (PV.agg [PV.int .i64 v4, PV.int .i64 v5]) := go (by kernel_rfl) (by kernel_rfl) (tN_ zXQ) (by kernel_rfl)
theorem zNk (a0_0 a0_1 : Int) : wc W zE2 [PV.agg [PV.int .i64 a0_0, PV.int .i64 a0_1]] =
 (wc W zEn [PV.agg [PV.int .i64 a0_0, PV.int .i64 a0_1]]).bind fun v1 => c_b v1 fun v2 => some (PV.bool !v2) := go (by kernel_rfl) (by kernel_rfl) (tN_ zXR) (by kernel_rfl)
noncomputable def zJ (l1 l2 : List PV) (i3 i4 i5 : Int) : Option (AV × List Ob) := (lO_ zUU false 1) [0, 1, 0, 1] 1 (St.mk [(0, AV.pv (PV.slice 0 l1)), (1, AV.fnv zAl [] [AV.pv (PV.imm 2 (PV.agg [PV.slice 3 l2]) 0), AV.own 0 0]), (7, AV.pv (PV.int .i64 i3)), (8, AV.pv (PV.int .i64 i4))] [Ob.var false 0 (AV.pv (PV.int .i64 i5))])
theorem zAL (l1 l2 : List PV) (i3 i4 i5 : Int) : zJ l1 l2 i3 i4 i5 =
 bif decide (i4 < i3) then bif decide ((0 : Int) ≤ i4) then (l1[Int.toNat i4]?).bind fun v6 => c_s3 v6 fun v7 => (W zAl false [AV.pv (PV.slice 3 v7), AV.pv (PV.imm 2 (PV.agg [PV.slice 3 l2]) 0), AV.own 0 0] [Ob.var false 0 (AV.pv (PV.int .i64 i5))]).bind fun v11 => zFP v11 fun v12 v13 => c_b v12 fun v14 => bif v14 then some (AV.pv (PV.int .i64 i4), [Ob.var false 0 (AV.pv (PV.int .i64 v13))]) else zJ l1 l2 i3 (IntKind.wrap .i64 (i4 + (1 : Int) : Int)) v13 else none else some (AV.pv (PV.int .i64 (-1 : Int)), [Ob.var false 0 (AV.pv (PV.int .i64 i5))]) := ((tO_ zUU false 1).loop [1, 0, 1, 0] 1 _ rfl).trans (by kernel_rfl)
theorem zB4 (l0 l1 : List PV) (i2 : Int) : W zAb false [AV.pv (PV.slice 0 l0), AV.fnv zAl [] [AV.pv (PV.imm 2 (PV.agg [PV.slice 3 l1]) 0), AV.own 0 0]] [Ob.var false 0 (AV.pv (PV.int .i64 i2))] =
 zJ l0 l1 (((List.length l0) : Nat) : Int) (0 : Int) i2 := goO (by kernel_rfl) (by kernel_rfl) (tO_ zUU false 1) rfl (by kernel_rfl)
theorem zU3 (a0_0 a0_1 a1_0 a1_1 : Int) : wc W zJj [PV.agg [PV.int .i64 a0_0, PV.int .i64 a0_1], PV.agg [PV.int .i64 a1_0, PV.int .i64 a1_1]] =
 (wc W zED [PV.slice 3 [PV.agg [PV.int .i64 a0_0, PV.int .i64 a0_1], PV.agg [PV.int .i64 a1_0, PV.int .i64 a1_1]]]).bind fun v1 => (PV.asTup v1).bind fun v2 => (v2[0]?).bind fun v3 => zD v3 fun v4 v5 => (PV.asTup v1).bind fun v6 => (v6[1]?).bind fun v7 => c_b v7 fun v8 => bif v8 then some (PV.agg [PV.int .i64 v4, PV.int .i64 v5]) else ((bif a0_0 == a1_0 then bif a0_1 == a1_1 then some true else some false else some false).bind fun v9 => some (PV.bool v9)).bind fun v10 => c_b v10 fun v11 => (wc W zHl [PV.bool v11]).bind fun v12 => zD v12 fun v13 v14 => some (PV.agg [PV.int .i64 v13, PV.int .i64 v14]) := go (by kernel_rfl) (by kernel_rfl) (tN_ zXS) (by kernel_rfl)
theorem zHX (a0_0 a0_1 a0_2 a0_3 : Int) (a0_4 : List PV) (a1 : Int) : wc W zCW [PV.agg [PV.int .i64 a0_0, PV.int .i64 a0_1, PV.int .i64 a0_2, PV.int .i64 a0_3, PV.slice 6 a0_4], PV.int .i64 a1] =
 (wc W zBT [PV.agg [PV.int .i64 a0_0, PV.int .i64 a0_1, PV.int .i64 a0_2, PV.int .i64 a0_3, PV.slice 6 a0_4], PV.int .i64 a1]).bind fun v1 => zA6 v1 fun v2 => some (PV.bool (decide (v2 ≤ a1))) := go (by kernel_rfl) (by kernel_rfl) (tN_ zXT) (by kernel_rfl)
noncomputable def zCG (i1 : Int) (l2 : List PV) : Option (AV × List Ob) := (jO_ zUV true 0) [1, 1] (St.mk [(0, AV.nil 0), (1, AV.pv (PV.int .i64 i1))] [Ob.row false 0 0 l2])
theorem zDX (i1 : Int) (l2 : List PV) : zCG i1 l2 =
 bif decide (GT.gt (IntKind.wrap .i64 (i1 - (0 : Int) : Int)) (0 : Int)) then bif (((decide ((0 : Int) < (IntKind.wrap .i64 (i1 - (0 : Int) : Int)))) && (decide ((IntKind.wrap .i64 (i1 - (0 : Int) : Int)) ≤ (4294967296 : Int)))) && true) && true then some (AV.view 0 0 none, [Ob.row false 0 0 []]) else none else some (AV.view 0 0 none, [Ob.row false 0 0 []]) := ((tO_ zUV true 0).join [1, 1] _).trans (by kernel_rfl)
theorem zEQ (i0 : Int) : W zBu true [AV.nil 0, AV.pv (PV.int .i64 i0)] [] =
 bif decide (i0 < (0 : Int)) then none else zCG i0 [] := goO (by kernel_rfl) (by kernel_rfl) (tO_ zUV true 0) rfl (by kernel_rfl)
noncomputable def zBA (i1 : Int) (l2 : List PV) : Option (AV × List Ob) := (jO_ zUW true 0) [1, 1] (St.mk [(0, AV.nil 3), (1, AV.pv (PV.int .i64 i1))] [Ob.row false 0 3 l2])
theorem zCK (i1 : Int) (l2 : List PV) : zBA i1 l2 =
 bif decide (GT.gt (IntKind.wrap .i64 (i1 - (0 : Int) : Int)) (0 : Int)) then bif (((decide ((0 : Int) < (IntKind.wrap .i64 (i1 - (0 : Int) : Int)))) && (decide ((IntKind.wrap .i64 (i1 - (0 : Int) : Int)) ≤ (4294967296 : Int)))) && true) && true then some (AV.view 0 0 none, [Ob.row false 0 3 []]) else none else some (AV.view 0 0 none, [Ob.row false 0 3 []]) := ((tO_ zUW true 0).join [1, 1] _).trans (by kernel_rfl)
theorem zCa (i0 : Int) : W zAi true [AV.nil 3, AV.pv (PV.int .i64 i0)] [] =
 bif decide (i0 < (0 : Int)) then none else zBA i0 [] := goO (by kernel_rfl) (by kernel_rfl) (tO_ zUW true 0) rfl (by kernel_rfl)
noncomputable def zQ (l1 : List PV) (p2 : PV) (i3 i4 : Int) : Option PV := (lN_ zUX) [0, 1, 0, 1] 0 (St.mk [(0, AV.pv (PV.slice 3 l1)), (1, AV.pv p2), (7, AV.pv (PV.int .i64 i3)), (8, AV.pv (PV.int .i64 i4))] [])
theorem zAc (l1 : List PV) (p2 : PV) (i3 i4 : Int) : zQ l1 p2 i3 i4 =
 bif decide (i4 < i3) then bif decide ((0 : Int) ≤ i4) then (l1[Int.toNat i4]?).bind fun v5 => zD v5 fun v6 v7 => (PV.asFn p2).bind fun v8 => (wc W (Prod.fst v8) (((Prod.fst (Prod.snd v8)) ++ [PV.agg [PV.int .i64 v6, PV.int .i64 v7]]) ++ (Prod.snd (Prod.snd v8)))).bind fun v9 => c_b v9 fun v10 => bif v10 then some (PV.int .i64 i4) else zQ l1 p2 i3 (IntKind.wrap .i64 (i4 + (1 : Int) : Int)) else none else some (PV.int .i64 (-1 : Int)) := ((tN_ zUX).loop [1, 0, 1, 0] 0 _ rfl).trans (by kernel_rfl)
theorem zCb (a0 : List PV) (a1 : PV) : wc W zAV [PV.slice 3 a0, a1] =
 zQ a0 a1 (((List.length a0) : Nat) : Int) (0 : Int) := go (by kernel_rfl) (by kernel_rfl) (tN_ zUX) (by kernel_rfl)
theorem zIn (i0 i1 i2 i3 : Int) (l4 : List PV) (i5 i6 : Int) : W zB7 false [AV.pv (PV.agg [PV.int .i64 i0, PV.int .i64 i1, PV.int .i64 i2, PV.int .i64 i3, PV.slice 6 l4]), AV.pv (PV.int .i64 i5), AV.own 0 0] [Ob.var false 0 (AV.pv (PV.int .i64 i6))] =
 bif decide ((IntKind.wrap .i64 (i6 + (1 : Int) : Int)) ≤ (30 : Int)) then bif decide (i5 ≤ (6 : Int)) then (wc W zHM [PV.agg [PV.int .i64 i0, PV.int .i64 i1, PV.int .i64 i2, PV.int .i64 i3, PV.slice 6 l4]]).bind fun v1 => c_b v1 fun v2 => some (AV.pv (PV.bool v2), [Ob.var false 0 (AV.pv (PV.int .i64 (IntKind.wrap .i64 (i6 + (1 : Int) : Int))))]) else some (AV.pv (PV.bool false), [Ob.var false 0 (AV.pv (PV.int .i64 (IntKind.wrap .i64 (i6 + (1 : Int) : Int))))]) else some (AV.pv (PV.bool false), [Ob.var false 0 (AV.pv (PV.int .i64 (IntKind.wrap .i64 (i6 + (1 : Int) : Int))))]) := goO (by kernel_rfl) (by kernel_rfl) (tO_ zXU false 1) rfl (by kernel_rfl)
noncomputable def zDb (i5 i6 i7 i8 : Int) (l9 : List PV) (b10 : Bool) (i11 i12 : Int) (p13 : PV) : Option PV := (jN_ zN7) [1, 1, 1] (St.mk [(1, AV.pv (PV.imm 6 (PV.agg [PV.int .i64 i5, PV.int .i64 i6, PV.int .i64 i7, PV.int .i64 i8, PV.slice 6 l9]) 0)), (4, AV.pv (PV.bool b10))] [Ob.var false 4 (AV.pv (PV.agg [PV.int .i64 i11, PV.int .i64 i12, p13]))])
noncomputable def zCD (i14 i15 i16 i17 : Int) (l18 : List PV) (b19 b20 : Bool) (i21 i22 : Int) (p23 : PV) : Option PV := (jN_ zN7) [1, 1, 1, 1] (St.mk [(1, AV.pv (PV.imm 6 (PV.agg [PV.int .i64 i14, PV.int .i64 i15, PV.int .i64 i16, PV.int .i64 i17, PV.slice 6 l18]) 0)), (4, AV.pv (PV.bool b19)), (5, AV.pv (PV.bool b20))] [Ob.var false 4 (AV.pv (PV.agg [PV.int .i64 i21, PV.int .i64 i22, p23]))])
noncomputable def zCk (i27 i28 i29 i30 : Int) (l31 : List PV) (b32 b33 b34 : Bool) (i35 i36 : Int) (p37 : PV) : Option PV := (jN_ zN7) [1, 1, 1, 1, 1] (St.mk [(1, AV.pv (PV.imm 6 (PV.agg [PV.int .i64 i27, PV.int .i64 i28, PV.int .i64 i29, PV.int .i64 i30, PV.slice 6 l31]) 0)), (4, AV.pv (PV.bool b32)), (5, AV.pv (PV.bool b33)), (6, AV.pv (PV.bool b34))] [Ob.var false 4 (AV.pv (PV.agg [PV.int .i64 i35, PV.int .i64 i36, p37]))])
theorem zJ5 (i5 i6 i7 i8 : Int) (l9 : List PV) (b10 : Bool) (i11 i12 : Int) (p13 : PV) : zDb i5 i6 i7 i8 l9 b10 i11 i12 p13 =
 bif i6 == (0 : Int) then zCD i5 i6 i7 i8 l9 b10 true i11 i12 p13 else bif i5 == (1 : Int) then bif decide (GT.gt i6 (0 : Int)) then zCD i5 i6 i7 i8 l9 b10 (decide (i6 ≤ (15 : Int))) i11 i12 p13 else zCD i5 i6 i7 i8 l9 b10 false i11 i12 p13 else zCD i5 i6 i7 i8 l9 b10 false i11 i12 p13 := ((tN_ zN7).join [1, 1, 1] _).trans (by kernel_rfl)
theorem zJ6 (i14 i15 i16 i17 : Int) (l18 : List PV) (b19 b20 : Bool) (i21 i22 : Int) (p23 : PV) : zCD i14 i15 i16 i17 l18 b19 b20 i21 i22 p23 =
 ((bif i16 == (0 : Int) then bif i17 == (0 : Int) then some true else some false else some false).bind fun v24 => some (PV.bool v24)).bind fun v25 => c_b v25 fun v26 => bif v26 then zCk i14 i15 i16 i17 l18 b19 b20 true i21 i22 p23 else bif i14 == (0 : Int) then (wc W zEn [PV.agg [PV.int .i64 i16, PV.int .i64 i17]]).bind fun v38 => c_b v38 fun v39 => zCk i14 i15 i16 i17 l18 b19 b20 v39 i21 i22 p23 else zCk i14 i15 i16 i17 l18 b19 b20 false i21 i22 p23 := ((tN_ zN7).join [1, 1, 1, 1] _).trans (by kernel_rfl)
theorem zJ7 (i27 i28 i29 i30 : Int) (l31 : List PV) (b32 b33 b34 : Bool) (i35 i36 : Int) (p37 : PV) : zCk i27 i28 i29 i30 l31 b32 b33 b34 i35 i36 p37 =
 bif decide (GE.ge i27 (0 : Int)) then bif decide (i27 < (11 : Int)) then bif b32 then bif b33 then some (PV.bool b34) else some (PV.bool false) else some (PV.bool false) else some (PV.bool false) else some (PV.bool false) := ((tN_ zN7).join [1, 1, 1, 1, 1] _).trans (by kernel_rfl)
theorem zPH (a0_0 a0_1 a0_2 a0_3 : Int) (a0_4 : List PV) : wc W zHM [PV.agg [PV.int .i64 a0_0, PV.int .i64 a0_1, PV.int .i64 a0_2, PV.int .i64 a0_3, PV.slice 6 a0_4]] =
 (wc W zFM [PV.int .i64 a0_0]).bind fun v1 => zAm v1 fun v2 v3 v4 => bif decide (GE.ge (((List.length a0_4) : Nat) : Int) v2) then zDb a0_0 a0_1 a0_2 a0_3 a0_4 (decide ((((List.length a0_4) : Nat) : Int) ≤ v3)) v2 v3 v4 else zDb a0_0 a0_1 a0_2 a0_3 a0_4 false v2 v3 v4 := go (by kernel_rfl) (by kernel_rfl) (tN_ zN7) (by kernel_rfl)
theorem zHy (a0 : List PV) (a1 : PV) : wc W zBI [PV.slice 3 a0, a1] =
 (wc W zI [PV.slice 3 a0, a1]).bind fun v1 => c_b v1 fun v2 => some (PV.bool v2) := go (by kernel_rfl) (by kernel_rfl) (tN_ zXV) (by kernel_rfl)
theorem zRU (a0 : Int) : wc W zG7 [PV.int .i64 a0] =
 some (PV.fn zC0 [] [PV.imm 0 (PV.int .i64 a0) 0]) := go (by kernel_rfl) (by kernel_rfl) (tN_ zXW) (by kernel_rfl)
theorem zSw  : wc W zFv [] =
 some (PV.agg [PV.int .i64 (2 : Int), PV.int .i64 (0 : Int)]) := go (by kernel_rfl) (by kernel_rfl) (tN_ zXX) (by kernel_rfl)
theorem zRV  : wc W zIh [] =
 some (PV.agg [PV.int .i64 (1 : Int), PV.int .i64 (0 : Int)]) := go (by kernel_rfl) (by kernel_rfl) (tN_ zXY) (by kernel_rfl)
noncomputable def zE7 (i1 : Int) (l2 : List PV) (i3 i4 : Int) : Option PV := (lN_ zUY) [0, 1, 0, 1, 1] 0 (St.mk [(3, AV.pv (PV.int .i64 i1)), (9, AV.pv (PV.slice 0 l2)), (10, AV.pv (PV.int .i64 i3)), (11, AV.pv (PV.int .i64 i4))] [])
theorem zGG (i1 : Int) (l2 : List PV) (i3 i4 : Int) : zE7 i1 l2 i3 i4 =
 bif decide (i4 < i3) then bif decide ((0 : Int) ≤ i4) then (l2[Int.toNat i4]?).bind fun v5 => zA6 v5 fun v6 => (wc W zFw [PV.int .i64 v6]).bind fun v7 => (PV.asTup v7).bind fun v8 => (v8[0]?).bind fun v9 => zA6 v9 fun v10 => (PV.asTup v7).bind fun v11 => (v11[1]?).bind fun v12 => zA6 v12 fun v13 => (PV.asTup v7).bind fun v14 => (v14[2]?).bind fun v15 => c_b v15 fun v16 => (bif decide (v10 < (0 : Int)) then none else some (PV.int .i64 (IntKind.wrap .i64 ((1 : Int) * (HPow.hPow (2 : Int) (Min.min (Int.toNat v10) 64)) : Int)))).bind fun v17 => zA6 v17 fun v18 => zE7 (IntKind.wrap .i64 (((BitVec.toNat (HOr.hOr (BitVec.ofInt 64 i1) (BitVec.ofInt 64 v18))) : Nat) : Int)) l2 i3 (IntKind.wrap .i64 (i4 + (1 : Int) : Int)) else none else some (PV.int .i64 i1) := ((tN_ zUY).loop [1, 1, 0, 1, 0] 0 _ rfl).trans (by kernel_rfl)
theorem zRW (a0 : List PV) : wc W zIi [PV.slice 0 a0] =
 zE7 (0 : Int) a0 (((List.length a0) : Nat) : Int) (0 : Int) := go (by kernel_rfl) (by kernel_rfl) (tN_ zUY) (by kernel_rfl)
noncomputable def zHz (l3 : List PV) (i4 i5 i6 : Int) : Option PV := (jN_ zQy) [1, 1, 0, 1, 1, 1, 0, 1, 0, 1] (St.mk [(2, AV.pv (PV.slice 3 l3)), (6, AV.own 0 0), (7, AV.pv (PV.int .i64 i4))] [Ob.var false 3 (AV.pv (PV.agg [PV.int .i64 i5, PV.int .i64 i6]))])
noncomputable def zDc (l7 l8 : List PV) (i9 i10 i11 i12 : Int) (l13 l14 : List PV) (i15 i16 i17 i18 : Int) (l19 : List PV) : Option PV := (lN_ zQy) [0, 1, 0, 1, 1, 1] 2 (St.mk [(1, AV.pv (PV.slice 0 l7)), (2, AV.pv (PV.slice 3 l8)), (3, AV.pv (PV.imm 6 (PV.agg [PV.int .i64 i9, PV.int .i64 i10, PV.int .i64 i11, PV.int .i64 i12, PV.slice 6 l13]) 0)), (6, AV.own 0 0), (8, AV.view 1 0 none), (37, AV.pv (PV.slice 6 l14)), (38, AV.pv (PV.int .i64 i15)), (39, AV.pv (PV.int .i64 i16))] [Ob.var false 3 (AV.pv (PV.agg [PV.int .i64 i17, PV.int .i64 i18])), Ob.row false 0 3 l19])
theorem zJ8 (l3 : List PV) (i4 i5 i6 : Int) : zHz l3 i4 i5 i6 =
 bif decide ((0 : Int) ≤ i4) then (l3[Int.toNat i4]?).bind fun v20 => zD v20 fun v21 v22 => some (PV.agg [PV.int .i64 v21, PV.int .i64 v22]) else none := ((tN_ zQy).join [1, 0, 1, 0, 1, 1, 1, 0, 1, 1] _).trans (by kernel_rfl)
theorem zF7 (l7 l8 : List PV) (i9 i10 i11 i12 : Int) (l13 l14 : List PV) (i15 i16 i17 i18 : Int) (l19 : List PV) : zDc l7 l8 i9 i10 i11 i12 l13 l14 i15 i16 i17 i18 l19 =
 bif decide (i16 < i15) then bif decide ((0 : Int) ≤ i16) then (l14[Int.toNat i16]?).bind fun v23 => zG v23 fun v24 v25 v26 v27 v28 => (wc W zFL [PV.agg [PV.int .i64 v24, PV.int .i64 v25, PV.int .i64 v26, PV.int .i64 v27, PV.slice 6 v28], PV.slice 0 l7, PV.slice 3 l8]).bind fun v29 => zD v29 fun v30 v31 => bif true && (decide (((List.length l19) + 1 : Nat) ≤ 4294967296)) then zDc l7 l8 i9 i10 i11 i12 l13 l14 i15 (IntKind.wrap .i64 (i16 + (1 : Int) : Int)) i17 i18 (l19 ++ [PV.agg [PV.int .i64 v30, PV.int .i64 v31]]) else none else none else (wc W zFM [PV.int .i64 i9]).bind fun v32 => zAm v32 fun v33 v34 v35 => (PV.asFn v35).bind fun v36 => (wc W (Prod.fst v36) (((Prod.fst (Prod.snd v36)) ++ [PV.slice 3 l19]) ++ (Prod.snd (Prod.snd v36)))).bind fun v37 => zD v37 fun v38 v39 => some (PV.agg [PV.int .i64 v38, PV.int .i64 v39]) := ((tN_ zQy).loop [1, 1, 1, 0, 1, 0] 2 _ rfl).trans (by kernel_rfl)
theorem zPI (a0_0 a0_1 a0_2 a0_3 : Int) (a0_4 a1 a2 : List PV) : wc W zFL [PV.agg [PV.int .i64 a0_0, PV.int .i64 a0_1, PV.int .i64 a0_2, PV.int .i64 a0_3, PV.slice 6 a0_4], PV.slice 0 a1, PV.slice 3 a2] =
 bif a0_0 == (0 : Int) then some (PV.agg [PV.int .i64 a0_2, PV.int .i64 a0_3]) else bif a0_0 == (1 : Int) then (wc W zA0 [PV.slice 0 a1, PV.int .i64 a0_1]).bind fun v1 => zA6 v1 fun v2 => bif decide (v2 < (0 : Int)) then some (PV.agg [PV.int .i64 (2 : Int), PV.int .i64 (0 : Int)]) else bif decide (GE.ge v2 (((List.length a2) : Nat) : Int)) then some (PV.agg [PV.int .i64 (2 : Int), PV.int .i64 (0 : Int)]) else zHz a2 v2 (0 : Int) (0 : Int) else zDc a1 a2 a0_0 a0_1 a0_2 a0_3 a0_4 a0_4 (((List.length a0_4) : Nat) : Int) (0 : Int) (0 : Int) (0 : Int) [] := go (by kernel_rfl) (by kernel_rfl) (tN_ zQy) (by kernel_rfl)
theorem zRX (a0_0 a0_1 : Int) : wc W zIj [PV.agg [PV.int .i64 a0_0, PV.int .i64 a0_1]] =
 (wc W zEn [PV.agg [PV.int .i64 a0_0, PV.int .i64 a0_1]]).bind fun v1 => c_b v1 fun v2 => bif !v2 then (wc W zFv []).bind fun v3 => zD v3 fun v4 v5 => some (PV.agg [PV.int .i64 v4, PV.int .i64 v5]) else some (PV.agg [PV.int .i64 a0_0, PV.int .i64 a0_1]) := go (by kernel_rfl) (by kernel_rfl) (tN_ zXZ) (by kernel_rfl)
theorem zSx (a0 : List PV) : wc W zED [PV.slice 3 a0] =
 (wc W zG7 [PV.int .i64 (2 : Int)]).bind fun v1 => (wc W zBI [PV.slice 3 a0, v1]).bind fun v2 => c_b v2 fun v3 => bif v3 then (wc W zFv []).bind fun v4 => zD v4 fun v5 v6 => some (PV.tup [PV.agg [PV.int .i64 v5, PV.int .i64 v6], PV.bool true]) else (wc W zG7 [PV.int .i64 (1 : Int)]).bind fun v7 => (wc W zBI [PV.slice 3 a0, v7]).bind fun v8 => c_b v8 fun v9 => bif v9 then (wc W zIh []).bind fun v10 => zD v10 fun v11 v12 => some (PV.tup [PV.agg [PV.int .i64 v11, PV.int .i64 v12], PV.bool true]) else some (PV.tup [PV.agg [PV.int .i64 (0 : Int), PV.int .i64 (0 : Int)], PV.bool false]) := go (by kernel_rfl) (by kernel_rfl) (tN_ zX0) (by kernel_rfl)
theorem zU4 (a0 : Bool) : wc W zHl [PV.bool a0] =
 bif a0 then (wc W zDJ [PV.int .i64 (1 : Int)]).bind fun v1 => zD v1 fun v2 v3 => some (PV.agg [PV.int .i64 v2, PV.int .i64 v3]) else (wc W zDJ [PV.int .i64 (0 : Int)]).bind fun v4 => zD v4 fun v5 v6 => some (PV.agg [PV.int .i64 v5, PV.int .i64 v6]) := go (by kernel_rfl) (by kernel_rfl) (tN_ zX1) (by kernel_rfl)
noncomputable def zAy (i1 i2 i3 i4 i5 : Int) (l6 : List PV) (i7 i8 : Int) : Option PV := (lN_ zQz) [0, 1, 0, 1, 1] 0 (St.mk [(1, AV.pv (PV.int .i64 i1)), (2, AV.pv (PV.imm 6 (PV.agg [PV.int .i64 i2, PV.int .i64 i3, PV.int .i64 i4, PV.int .i64 i5, PV.slice 6 l6]) 0)), (5, AV.pv (PV.int .i64 i7)), (6, AV.pv (PV.int .i64 i8))] [])
noncomputable def zCs (i9 i10 i11 i12 i13 : Int) (l14 : List PV) (i15 i16 : Int) : Option PV := (jN_ zQz) [1, 0, 0, 1, 0, 1, 1] (St.mk [(1, AV.pv (PV.int .i64 i9)), (2, AV.pv (PV.imm 6 (PV.agg [PV.int .i64 i10, PV.int .i64 i11, PV.int .i64 i12, PV.int .i64 i13, PV.slice 6 l14]) 0)), (5, AV.pv (PV.int .i64 i15)), (6, AV.pv (PV.int .i64 i16))] [])
theorem zCP (i1 i2 i3 i4 i5 : Int) (l6 : List PV) (i7 i8 : Int) : zAy i1 i2 i3 i4 i5 l6 i7 i8 =
 bif decide (i8 < (((List.length l6) : Nat) : Int)) then bif decide (i7 ≤ i1) then zCs i1 i2 i3 i4 i5 l6 i7 i8 else some (PV.int .i64 i7) else some (PV.int .i64 i7) := ((tN_ zQz).loop [1, 1, 0, 1, 0] 0 _ rfl).trans (by kernel_rfl)
theorem zEf (i9 i10 i11 i12 i13 : Int) (l14 : List PV) (i15 i16 : Int) : zCs i9 i10 i11 i12 i13 l14 i15 i16 =
 bif decide ((0 : Int) ≤ i16) then (l14[Int.toNat i16]?).bind fun v17 => zG v17 fun v18 v19 v20 v21 v22 => (wc W zBT [PV.agg [PV.int .i64 v18, PV.int .i64 v19, PV.int .i64 v20, PV.int .i64 v21, PV.slice 6 v22], PV.int .i64 (IntKind.wrap .i64 (i9 - i15 : Int))]).bind fun v23 => zA6 v23 fun v24 => zAy i9 i10 i11 i12 i13 l14 (IntKind.wrap .i64 (i15 + v24 : Int)) (IntKind.wrap .i64 (i16 + (1 : Int) : Int)) else none := ((tN_ zQz).join [1, 1, 0, 1, 0, 0, 1] _).trans (by kernel_rfl)
theorem zGh (a0_0 a0_1 a0_2 a0_3 : Int) (a0_4 : List PV) (a1 : Int) : wc W zBT [PV.agg [PV.int .i64 a0_0, PV.int .i64 a0_1, PV.int .i64 a0_2, PV.int .i64 a0_3, PV.slice 6 a0_4], PV.int .i64 a1] =
 zAy a1 a0_0 a0_1 a0_2 a0_3 a0_4 (1 : Int) (0 : Int) := go (by kernel_rfl) (by kernel_rfl) (tN_ zQz) (by kernel_rfl)
theorem zPJ (a0 : Int) : wc W zFM [PV.int .i64 a0] =
 bif a0 == (2 : Int) then (wc W zC1 [PV.fn zHm [] []]).bind fun v1 => zAm v1 fun v2 v3 v4 => some (PV.agg [PV.int .i64 v2, PV.int .i64 v3, v4]) else bif a0 == (3 : Int) then (wc W zC1 [PV.fn zHn [] []]).bind fun v5 => zAm v5 fun v6 v7 v8 => some (PV.agg [PV.int .i64 v6, PV.int .i64 v7, v8]) else bif a0 == (4 : Int) then (wc W zC1 [PV.fn zHo [] []]).bind fun v9 => zAm v9 fun v10 v11 v12 => some (PV.agg [PV.int .i64 v10, PV.int .i64 v11, v12]) else bif a0 == (5 : Int) then (wc W zC1 [PV.fn zHp [] []]).bind fun v13 => zAm v13 fun v14 v15 v16 => some (PV.agg [PV.int .i64 v14, PV.int .i64 v15, v16]) else bif a0 == (6 : Int) then (wc W zC1 [PV.fn zJj [] []]).bind fun v17 => zAm v17 fun v18 v19 v20 => some (PV.agg [PV.int .i64 v18, PV.int .i64 v19, v20]) else bif a0 == (7 : Int) then (wc W zC1 [PV.fn zJk [] []]).bind fun v21 => zAm v21 fun v22 v23 v24 => some (PV.agg [PV.int .i64 v22, PV.int .i64 v23, v24]) else bif a0 == (8 : Int) then some (PV.agg [PV.int .i64 (0 : Int), PV.int .i64 (4 : Int), PV.fn zD4 [] []]) else bif a0 == (9 : Int) then some (PV.agg [PV.int .i64 (0 : Int), PV.int .i64 (4 : Int), PV.fn zD5 [] []]) else bif a0 == (10 : Int) then some (PV.agg [PV.int .i64 (1 : Int), PV.int .i64 (1 : Int), PV.fn zD6 [] []]) else some (PV.agg [PV.int .i64 (0 : Int), PV.int .i64 (0 : Int), PV.nilfn]) := go (by kernel_rfl) (by kernel_rfl) (tN_ zX2) (by kernel_rfl)
theorem zNl (a0_0 a0_1 c0 : Int) : wc W zC0 [PV.agg [PV.int .i64 a0_0, PV.int .i64 a0_1], PV.imm 0 (PV.int .i64 c0) 0] =
 (wc W zIj [PV.agg [PV.int .i64 a0_0, PV.int .i64 a0_1]]).bind fun v1 => zD v1 fun v2 v3 => some (PV.bool (v2 == c0)) := go (by kernel_rfl) (by kernel_rfl) (tN_ zX3) (by kernel_rfl)
theorem zNm (a0 : Int) : wc W zFw [PV.int .i64 a0] =
 (wc W zCh [PV.int .i64 a0, PV.int .i64 (0 : Int), PV.int .i64 (15 : Int)]).bind fun v1 => c_b v1 fun v2 => bif !v2 then some (PV.tup [PV.int .i64 (0 : Int), PV.int .i64 (0 : Int), PV.bool false]) else some (PV.tup [PV.int .i64 (IntKind.wrap .i64 (Int.tdiv a0 (4 : Int))), PV.int .i64 (Int.tmod a0 (4 : Int)), PV.bool true]) := go (by kernel_rfl) (by kernel_rfl) (tN_ zX4) (by kernel_rfl)
theorem zRY (a0 : PV) : wc W zC1 [a0] =
 bif PV.okSh 0 a0 then some (PV.agg [PV.int .i64 (2 : Int), PV.int .i64 (2 : Int), PV.fn zAp [] [PV.imm 0 a0 0]]) else none := go (by kernel_rfl) (by kernel_rfl) (tN_ zX5) (by kernel_rfl)
theorem zSy (a0_0 a0_1 a1_0 a1_1 : Int) : wc W zHm [PV.agg [PV.int .i64 a0_0, PV.int .i64 a0_1], PV.agg [PV.int .i64 a1_0, PV.int .i64 a1_1]] =
 (wc W zC2 [PV.agg [PV.int .i64 a0_0, PV.int .i64 a0_1], PV.agg [PV.int .i64 a1_0, PV.int .i64 a1_1], PV.fn zHN [] []]).bind fun v1 => zD v1 fun v2 v3 => some (PV.agg [PV.int .i64 v2, PV.int .i64 v3]) := go (by kernel_rfl) (by kernel_rfl) (tN_ zX6) (by kernel_rfl)
theorem zSz (a0_0 a0_1 a1_0 a1_1 : Int) : wc W zHn [PV.agg [PV.int .i64 a0_0, PV.int .i64 a0_1], PV.agg [PV.int .i64 a1_0, PV.int .i64 a1_1]] =
 (wc W zC2 [PV.agg [PV.int .i64 a0_0, PV.int .i64 a0_1], PV.agg [PV.int .i64 a1_0, PV.int .i64 a1_1], PV.fn zHO [] []]).bind fun v1 => zD v1 fun v2 v3 => some (PV.agg [PV.int .i64 v2, PV.int .i64 v3]) := go (by kernel_rfl) (by kernel_rfl) (tN_ zX7) (by kernel_rfl)
theorem zTA (a0_0 a0_1 a1_0 a1_1 : Int) : wc W zHo [PV.agg [PV.int .i64 a0_0, PV.int .i64 a0_1], PV.agg [PV.int .i64 a1_0, PV.int .i64 a1_1]] =
 (wc W zC2 [PV.agg [PV.int .i64 a0_0, PV.int .i64 a0_1], PV.agg [PV.int .i64 a1_0, PV.int .i64 a1_1], PV.fn zFN [] []]).bind fun v1 => zD v1 fun v2 v3 => some (PV.agg [PV.int .i64 v2, PV.int .i64 v3]) := go (by kernel_rfl) (by kernel_rfl) (tN_ zX8) (by kernel_rfl)
theorem zTB (a0_0 a0_1 a1_0 a1_1 : Int) : wc W zHp [PV.agg [PV.int .i64 a0_0, PV.int .i64 a0_1], PV.agg [PV.int .i64 a1_0, PV.int .i64 a1_1]] =
 (wc W zC2 [PV.agg [PV.int .i64 a0_0, PV.int .i64 a0_1], PV.agg [PV.int .i64 a1_0, PV.int .i64 a1_1], PV.fn zHP [] []]).bind fun v1 => zD v1 fun v2 v3 => some (PV.agg [PV.int .i64 v2, PV.int .i64 v3]) := go (by kernel_rfl) (by kernel_rfl) (tN_ zX9) (by kernel_rfl)
theorem zU5 (a0_0 a0_1 a1_0 a1_1 : Int) : wc W zJk [PV.agg [PV.int .i64 a0_0, PV.int .i64 a0_1], PV.agg [PV.int .i64 a1_0, PV.int .i64 a1_1]] =
 (wc W zED [PV.slice 3 [PV.agg [PV.int .i64 a0_0, PV.int .i64 a0_1], PV.agg [PV.int .i64 a1_0, PV.int .i64 a1_1]]]).bind fun v1 => (PV.asTup v1).bind fun v2 => (v2[0]?).bind fun v3 => zD v3 fun v4 v5 => (PV.asTup v1).bind fun v6 => (v6[1]?).bind fun v7 => c_b v7 fun v8 => bif v8 then some (PV.agg [PV.int .i64 v4, PV.int .i64 v5]) else (wc W zHl [PV.bool (decide (a0_1 < a1_1))]).bind fun v9 => zD v9 fun v10 v11 => some (PV.agg [PV.int .i64 v10, PV.int .i64 v11]) := go (by kernel_rfl) (by kernel_rfl) (tN_ zXa) (by kernel_rfl)
theorem zM0 (a0 : List PV) : wc W zD4 [PV.slice 3 a0] =
 (wc W zKg [PV.slice 3 a0]).bind fun v1 => zD v1 fun v2 v3 => some (PV.agg [PV.int .i64 v2, PV.int .i64 v3]) := go (by kernel_rfl) (by kernel_rfl) (tN_ zXb) (by kernel_rfl)
theorem zTC (a0 : List PV) : wc W zKg [PV.slice 3 a0] =
 (wc W zDJ [PV.int .i64 (0 : Int)]).bind fun v1 => zD v1 fun v2 v3 => (wc W zDJ [PV.int .i64 (1 : Int)]).bind fun v4 => zD v4 fun v5 v6 => (wc W zFO [PV.slice 3 a0, PV.fn zD7 [] [], PV.agg [PV.int .i64 v2, PV.int .i64 v3], PV.agg [PV.int .i64 v5, PV.int .i64 v6]]).bind fun v7 => zD v7 fun v8 v9 => some (PV.agg [PV.int .i64 v8, PV.int .i64 v9]) := go (by kernel_rfl) (by kernel_rfl) (tN_ zXc) (by kernel_rfl)
theorem zM1 (a0 : List PV) : wc W zD5 [PV.slice 3 a0] =
 (wc W zMS [PV.slice 3 a0]).bind fun v1 => zD v1 fun v2 v3 => some (PV.agg [PV.int .i64 v2, PV.int .i64 v3]) := go (by kernel_rfl) (by kernel_rfl) (tN_ zXd) (by kernel_rfl)
theorem zU6 (a0 : List PV) : wc W zMS [PV.slice 3 a0] =
 (wc W zDJ [PV.int .i64 (1 : Int)]).bind fun v1 => zD v1 fun v2 v3 => (wc W zDJ [PV.int .i64 (0 : Int)]).bind fun v4 => zD v4 fun v5 v6 => (wc W zFO [PV.slice 3 a0, PV.fn zEp [] [], PV.agg [PV.int .i64 v2, PV.int .i64 v3], PV.agg [PV.int .i64 v5, PV.int .i64 v6]]).bind fun v7 => zD v7 fun v8 v9 => some (PV.agg [PV.int .i64 v8, PV.int .i64 v9]) := go (by kernel_rfl) (by kernel_rfl) (tN_ zXe) (by kernel_rfl)
theorem zM2 (a0 : List PV) : wc W zD6 [PV.slice 3 a0] =
 (a0[0]?).bind fun v1 => zD v1 fun v2 v3 => (wc W zKh [PV.agg [PV.int .i64 v2, PV.int .i64 v3]]).bind fun v4 => zD v4 fun v5 v6 => some (PV.agg [PV.int .i64 v5, PV.int .i64 v6]) := go (by kernel_rfl) (by kernel_rfl) (tN_ zXf) (by kernel_rfl)
theorem zTD (a0_0 a0_1 : Int) : wc W zKh [PV.agg [PV.int .i64 a0_0, PV.int .i64 a0_1]] =
 (wc W zED [PV.slice 3 [PV.agg [PV.int .i64 a0_0, PV.int .i64 a0_1]]]).bind fun v1 => (PV.asTup v1).bind fun v2 => (v2[0]?).bind fun v3 => zD v3 fun v4 v5 => (PV.asTup v1).bind fun v6 => (v6[1]?).bind fun v7 => c_b v7 fun v8 => bif v8 then some (PV.agg [PV.int .i64 v4, PV.int .i64 v5]) else (wc W zHl [PV.bool (a0_1 == (0 : Int))]).bind fun v9 => zD v9 fun v10 v11 => some (PV.agg [PV.int .i64 v10, PV.int .i64 v11]) := go (by kernel_rfl) (by kernel_rfl) (tN_ zXg) (by kernel_rfl)
theorem zNn (a0 : List PV) (c0 : PV) : wc W zAp [PV.slice 3 a0, PV.imm 0 c0 0] =
 (a0[0]?).bind fun v1 => zD v1 fun v2 v3 => (a0[1]?).bind fun v4 => zD v4 fun v5 v6 => (PV.asFn c0).bind fun v7 => (wc W (Prod.fst v7) (((Prod.fst (Prod.snd v7)) ++ [PV.agg [PV.int .i64 v2, PV.int .i64 v3], PV.agg [PV.int .i64 v5, PV.int .i64 v6]]) ++ (Prod.snd (Prod.snd v7)))).bind fun v8 => zD v8 fun v9 v10 => some (PV.agg [PV.int .i64 v9, PV.int .i64 v10]) := go (by kernel_rfl) (by kernel_rfl) (tN_ zXh) (by kernel_rfl)
theorem zNo (a0_0 a0_1 a1_0 a1_1 : Int) (a2 : PV) : wc W zC2 [PV.agg [PV.int .i64 a0_0, PV.int .i64 a0_1], PV.agg [PV.int .i64 a1_0, PV.int .i64 a1_1], a2] =
 (wc W zED [PV.slice 3 [PV.agg [PV.int .i64 a0_0, PV.int .i64 a0_1], PV.agg [PV.int .i64 a1_0, PV.int .i64 a1_1]]]).bind fun v1 => (PV.asTup v1).bind fun v2 => (v2[0]?).bind fun v3 => zD v3 fun v4 v5 => (PV.asTup v1).bind fun v6 => (v6[1]?).bind fun v7 => c_b v7 fun v8 => bif v8 then some (PV.agg [PV.int .i64 v4, PV.int .i64 v5]) else (PV.asFn a2).bind fun v9 => (wc W (Prod.fst v9) (((Prod.fst (Prod.snd v9)) ++ [PV.int .i64 a0_1, PV.int .i64 a1_1]) ++ (Prod.snd (Prod.snd v9)))).bind fun v10 => (PV.asTup v10).bind fun v11 => (v11[0]?).bind fun v12 => zA6 v12 fun v13 => (PV.asTup v10).bind fun v14 => (v14[1]?).bind fun v15 => c_b v15 fun v16 => bif !v16 then (wc W zFv []).bind fun v17 => zD v17 fun v18 v19 => some (PV.agg [PV.int .i64 v18, PV.int .i64 v19]) else (wc W zDJ [PV.int .i64 v13]).bind fun v20 => zD v20 fun v21 v22 => some (PV.agg [PV.int .i64 v21, PV.int .i64 v22]) := go (by kernel_rfl) (by kernel_rfl) (tN_ zXi) (by kernel_rfl)
theorem zPK (a0 a1 : Int) : wc W zHN [PV.int .i64 a0, PV.int .i64 a1] =
 some (PV.tup [PV.int .i64 (IntKind.wrap .i64 (a0 + a1 : Int)), PV.bool ((decide ((IntKind.wrap .i64 (a0 + a1 : Int)) < a0)) == (decide (a1 < (0 : Int))))]) := go (by kernel_rfl) (by kernel_rfl) (tN_ zXj) (by kernel_rfl)
theorem zPL (a0 a1 : Int) : wc W zHO [PV.int .i64 a0, PV.int .i64 a1] =
 some (PV.tup [PV.int .i64 (IntKind.wrap .i64 (a0 - a1 : Int)), PV.bool ((decide (GT.gt (IntKind.wrap .i64 (a0 - a1 : Int)) a0)) == (decide (a1 < (0 : Int))))]) := go (by kernel_rfl) (by kernel_rfl) (tN_ zXk) (by kernel_rfl)
noncomputable def zDd (i12 i13 i14 i15 i16 : Int) : Option PV := (jN_ zUZ) [1, 1, 1, 1] (St.mk [(0, AV.pv (PV.int .i64 i12)), (1, AV.pv (PV.int .i64 i13)), (6, AV.pv (PV.int IntKind.u64 i14)), (7, AV.pv (PV.int IntKind.u64 i15)), (8, AV.pv (PV.int IntKind.u64 i16))] [])
theorem zJ9 (i12 i13 i14 i15 i16 : Int) : zDd i12 i13 i14 i15 i16 =
 bif i14 == (0 : Int) then some (PV.tup [PV.int .i64 (IntKind.wrap .i64 (i12 * i13 : Int)), PV.bool (decide (i15 ≤ i16))]) else some (PV.tup [PV.int .i64 (IntKind.wrap .i64 (i12 * i13 : Int)), PV.bool false]) := ((tN_ zUZ).join [1, 1, 1, 1] _).trans (by kernel_rfl)
theorem zPM (a0 a1 : Int) : wc W zFN [PV.int .i64 a0, PV.int .i64 a1] =
 (wc W zG8 [PV.int .i64 a0]).bind fun v1 => zSr v1 fun v2 => (wc W zG8 [PV.int .i64 a1]).bind fun v3 => zSr v3 fun v4 => (wc W zJL [PV.int IntKind.u64 v2, PV.int IntKind.u64 v4]).bind fun v5 => (PV.asTup v5).bind fun v6 => (v6[0]?).bind fun v7 => zSr v7 fun v8 => (PV.asTup v5).bind fun v9 => (v9[1]?).bind fun v10 => zSr v10 fun v11 => bif !((decide (a0 < (0 : Int))) == (decide (a1 < (0 : Int)))) then zDd a0 a1 v8 v11 (9223372036854775808 : Int) else zDd a0 a1 v8 v11 (9223372036854775807 : Int) := go (by kernel_rfl) (by kernel_rfl) (tN_ zUZ) (by kernel_rfl)
theorem zRZ (a0 : Int) : wc W zG8 [PV.int .i64 a0] =
 bif decide (a0 < (0 : Int)) then some (PV.int IntKind.u64 (IntKind.wrap .u64 ((0 : Int) - (IntKind.wrap .u64 a0) : Int))) else some (PV.int IntKind.u64 (IntKind.wrap .u64 a0)) := go (by kernel_rfl) (by kernel_rfl) (tN_ zXl) (by kernel_rfl)
noncomputable def zDe (i1 i2 : Int) : Option PV := (jN_ zU0) [1, 1] (St.mk [(0, AV.pv (PV.int .i64 i1)), (1, AV.pv (PV.int .i64 i2))] [])
theorem zJa (i1 i2 : Int) : zDe i1 i2 =
 (bif i2 == (0 : Int) then none else some (PV.int .i64 (IntKind.wrap .i64 (Int.tdiv i1 i2)))).bind fun v3 => zA6 v3 fun v4 => some (PV.tup [PV.int .i64 v4, PV.bool true]) := ((tN_ zU0).join [1, 1] _).trans (by kernel_rfl)
theorem zPN (a0 a1 : Int) : wc W zHP [PV.int .i64 a0, PV.int .i64 a1] =
 bif a1 == (0 : Int) then some (PV.tup [PV.int .i64 (0 : Int), PV.bool false]) else bif a0 == (-9223372036854775808 : Int) then bif a1 == (-1 : Int) then some (PV.tup [PV.int .i64 (0 : Int), PV.bool false]) else zDe a0 a1 else zDe a0 a1 := go (by kernel_rfl) (by kernel_rfl) (tN_ zU0) (by kernel_rfl)
theorem zPO (a0 : List PV) (a1 : PV) (a2_0 a2_1 a3_0 a3_1 : Int) : wc W zFO [PV.slice 3 a0, a1, PV.agg [PV.int .i64 a2_0, PV.int .i64 a2_1], PV.agg [PV.int .i64 a3_0, PV.int .i64 a3_1]] =
 (wc W zBI [PV.slice 3 a0, a1]).bind fun v1 => c_b v1 fun v2 => bif v2 then some (PV.agg [PV.int .i64 a2_0, PV.int .i64 a2_1]) else (wc W zED [PV.slice 3 a0]).bind fun v3 => (PV.asTup v3).bind fun v4 => (v4[0]?).bind fun v5 => zD v5 fun v6 v7 => (PV.asTup v3).bind fun v8 => (v8[1]?).bind fun v9 => c_b v9 fun v10 => bif v10 then some (PV.agg [PV.int .i64 v6, PV.int .i64 v7]) else some (PV.agg [PV.int .i64 a3_0, PV.int .i64 a3_1]) := go (by kernel_rfl) (by kernel_rfl) (tN_ zXm) (by kernel_rfl)
theorem zM3 (a0_0 a0_1 : Int) : wc W zD7 [PV.agg [PV.int .i64 a0_0, PV.int .i64 a0_1]] =
 (wc W zDJ [PV.int .i64 (0 : Int)]).bind fun v1 => zD v1 fun v2 v3 => ((bif a0_0 == v2 then bif a0_1 == v3 then some true else some false else some false).bind fun v4 => some (PV.bool v4)).bind fun v5 => c_b v5 fun v6 => some (PV.bool v6) := go (by kernel_rfl) (by kernel_rfl) (tN_ zXn) (by kernel_rfl)
end Go.Cf



namespace Go.Cf
open Go Go.Ab
set_option linter.unusedVariables false
def I64 (n : Int) : Prop := -9223372036854775808 ≤ n ∧ n ≤ 9223372036854775807
theorem zA3 {n : Int} (h1 : -9223372036854775808 ≤ n) (h2 : n ≤ 9223372036854775807) : IntKind.wrap .i64 n = n := by
 simp only [IntKind.wrap, IntKind.bits, IntKind.signed]
 simp
 omega
theorem zU7 {n : Nat} (h : n ≤ 9223372036854775807) : IntKind.wrap .i64 (n : Int) = n := zA3 (by omega) (by omega)
theorem zP {n : Nat} (h : n < 9223372036854775807) : IntKind.wrap .i64 ((n : Int) + 1) = ((n + 1 : Nat) : Int) := by rw [zA3 (by omega) (by omega)]; omega
@[simp] theorem asTup_mk (l : List PV) : PV.asTup (.tup l) = some l := rfl
@[simp] theorem asFn_mk (f : Nat) (a b : List PV) : PV.asFn (.fn f a b) = some (f, a, b) := rfl
@[simp] theorem zAM (n : Nat) : decide ((0 : Int) ≤ (n : Int)) = true := by simp
theorem zXo {n : Int} (h : (Lit.int .i64 n).wf = true) : I64 n := by
 simp only [Lit.wf, Bool.and_eq_true, decide_eq_true_eq] at h
 exact h
theorem zJm {R : Type} (L : Int → Option R) (n : Nat) (p : Nat → Bool) (r s : Option R) (hs : ∀ i : Nat, i < n → L (i : Int) = bif p i then L ((i : Int) + 1) else r) (he : L (n : Int) = s) :
 L 0 = bif (List.range n).all p then s else r := by
 have : ∀ k i : Nat, i + k = n → L (i : Int) = bif (List.range' i k).all p then s else r := by
  intro k
  induction k with
  | zero => intro i h; simp at h; subst h; simpa using he
  | succ k ih =>
   intro i h
   rw [hs i (by omega), show ((i : Int) + 1) = ((i + 1 : Nat) : Int) by omega, ih (i + 1) (by omega), List.range'_succ, List.all_cons]
   cases p i <;> simp
 have h0 := this n 0 (by omega)
 rw [List.range_eq_range']
 exact h0
theorem zTE {α : Type} (l : List α) (q : α → Bool) : ((List.range l.length).all fun i => (l[i]?).all q) = l.all q := by
 rw [Bool.eq_iff_iff, List.all_eq_true, List.all_eq_true]
 constructor
 ·intro h x hx
  obtain ⟨i, hi, rfl⟩ := List.mem_iff_getElem.1 hx
  have := h i (by simpa using hi)
  simpa [List.getElem?_eq_getElem hi] using this
 ·intro h i hi
  have hi' : i < l.length := by simpa using hi
  simpa [List.getElem?_eq_getElem hi'] using h _ (List.getElem_mem hi')
theorem zAZ {i n : Nat} (h : i < n) : decide ((i : Int) < (n : Int)) = true := by simpa using h
theorem zCt {n : Nat} : decide ((n : Int) < (n : Int)) = false := by simp
theorem zNp {α : Type} [BEq α] [LawfulBEq α] {a b : α} (h : a ≠ b) : (a != b) = true := by simpa using h
theorem zTF {α : Type} [BEq α] [LawfulBEq α] {a b : α} (h : a = b) : (a != b) = false := by simpa using h
theorem zNq {α : Type} [BEq α] [LawfulBEq α] {a b : α} (h : a = b) : (a == b) = true := by simpa using h
theorem zER {α : Type} [BEq α] [LawfulBEq α] {a b : α} (h : a ≠ b) : (a == b) = false := by simpa using h
theorem zXp {α : Type} [DecidableEq α] (a b : List α) (e : a.length = b.length) : ((List.range a.length).all fun i => decide (a[i]? = b[i]?)) = decide (a = b) := by
 by_cases hab : a = b
 ·subst hab; simp
 ·rw [decide_eq_false hab, Bool.eq_false_iff]
  intro hall
  apply hab
  rw [List.all_eq_true] at hall
  apply List.ext_getElem?
  intro i
  by_cases hi : i < a.length
  ·simpa using hall i (by simpa using hi)
  ·rw [List.getElem?_eq_none (by omega), List.getElem?_eq_none (by omega)]
end Go.Cf

namespace Go.Cf
open Go Go.Ab
set_option linter.unusedVariables false
set_option linter.unusedSimpArgs false
structure Val where
 K : Int
 N : Int
 deriving DecidableEq
def Val.pv (v : Val) : PV := .agg [.int .i64 v.K, .int .i64 v.N]
@[simp] theorem Val.fold (v : Val) : PV.agg [.int .i64 v.K, .int .i64 v.N] = v.pv := rfl
@[simp] theorem Val.c_mk (v : Val) {R : Type} (f : Int → Int → Option R) : zD v.pv f = f v.K v.N := rfl
structure Def where
 Cols : Int
 Rows : Int
 deriving DecidableEq
def Def.pv (d : Def) : PV := .agg [.int .i64 d.Cols, .int .i64 d.Rows]
@[simp] theorem Def.fold (v : Def) : PV.agg [.int .i64 v.Cols, .int .i64 v.Rows] = v.pv := rfl
@[simp] theorem Def.c_mk (v : Def) {R : Type} (f : Int → Int → Option R) : zD v.pv f = f v.Cols v.Rows := rfl
@[simp] theorem Def.load0 (v : Def) : PV.load 3 v.pv 0 0 = some (.int .i64 v.Cols) := rfl
@[simp] theorem Def.load1 (v : Def) : PV.load 3 v.pv 1 0 = some (.int .i64 v.Rows) := rfl
def rowp (r : List Val) : PV := .slice 3 (r.map Val.pv)
def tabp (t : List (List Val)) : PV := .slice 0 (t.map rowp)
@[simp] theorem zGH (r : List Val) {R : Type} (f : List PV → Option R) : c_s3 (rowp r) f = f (r.map Val.pv) := rfl
@[simp] theorem zKr (t : List (List Val)) {R : Type} (f : List PV → Option R) : c_s0 (tabp t) f = f (t.map rowp) := rfl
@[simp] theorem zR (r : List Val) : PV.slice 3 (r.map Val.pv) = rowp r := rfl
@[simp] theorem zAN (t : List (List Val)) : PV.slice 0 (t.map rowp) = tabp t := rfl
def intp (n : Int) : PV := .int .i64 n
@[simp] theorem zGq (n : Int) {R : Type} (f : Int → Option R) : zA6 (intp n) f = f n := rfl
def zAs (l : List Int) : PV := .slice 0 (l.map intp)
@[simp] theorem zA (l : List Int) : PV.slice 0 (l.map intp) = zAs l := rfl
@[simp] theorem zDY (l : List Int) {R : Type} (f : List PV → Option R) : c_s0 (zAs l) f = f (l.map intp) := rfl
def idxI {α : Type} (l : List α) (f : α → Bool) : Int := match l.findIdx? f with | some i => (i : Int) | none => -1
theorem zGa {α : Type} (l : List α) (f : α → Bool) : decide (idxI l f ≥ 0) = l.any f := by
 unfold idxI
 cases h : l.findIdx? f with
 | some i =>
  have := List.findIdx?_eq_some_iff_getElem.1 h
  obtain ⟨hi, h1, _⟩ := this
  have : l.any f = true := List.any_eq_true.2 ⟨_, List.getElem_mem hi, h1⟩
  rw [this]; simp
 | none =>
  have := List.findIdx?_eq_none_iff.1 h
  have : l.any f = false := by
   rw [Bool.eq_false_iff]
   intro e
   obtain ⟨x, hx, e⟩ := List.any_eq_true.1 e
   rw [this x hx] at e; cases e
  rw [this]; rfl
theorem zGb {R α : Type} (L : Int → Option R) (l : List α) (f : α → Bool) (g : Int → Option R) (hs : ∀ (i : Nat) (h : i < l.length), L (i : Int) = bif f l[i] then g (i : Int) else L ((i : Int) + 1)) (he : L (l.length : Int) = g (-1)) :
 L 0 = g (idxI l f) := by
 have : ∀ k i : Nat, i + k = l.length → L (i : Int) = g (match (l.drop i).findIdx? f with | some j => ((i + j : Nat) : Int) | none => -1) := by
  intro k
  induction k with
  | zero =>
   intro i h; simp at h; subst h
   rw [he, List.drop_of_length_le (Nat.le_refl _)]; rfl
  | succ k ih =>
   intro i h
   have hi : i < l.length := by omega
   rw [hs i hi, List.drop_eq_getElem_cons hi, List.findIdx?_cons]
   cases f l[i] with
   | true => simp
   | false =>
    simp only [cond_false, Bool.false_eq_true, if_false]
    rw [show ((i : Int) + 1) = ((i + 1 : Nat) : Int) by omega, ih (i + 1) (by omega)]
    cases (List.drop (i + 1) l).findIdx? f with
    | none => rfl
    | some j =>
     simp only [Option.map_some]
     congr 1; omega
 have h0 := this l.length 0 (by omega)
 simp only [Nat.zero_add, List.drop_zero] at h0
 exact h0
theorem zU8 (l : List Val) (g : Nat) (fs cs : List PV) (f : Val → Bool) (hl : l.length ≤ 9223372036854775807) (hf : ∀ x ∈ l, wc W g (fs ++ [x.pv] ++ cs) = some (.bool (f x))) :
 wc W zY [rowp l, .fn g fs cs] = some (.int .i64 (idxI l f)) := by
 unfold rowp
 rw [zBz, List.length_map]
 refine zGb (fun i => zL (l.map Val.pv) (.fn g fs cs) l.length i) l f (fun n => some (.int .i64 n)) (fun i hi => ?_) ?_
 ·rw [zAW]
  simp only [zAZ hi, zAM, cond_true, Int.toNat_natCast, List.getElem?_map, List.getElem?_eq_getElem hi, Option.map_some, Option.bind_some, Val.c_mk, asFn_mk, Val.fold]
  rw [hf _ (List.getElem_mem hi), zA3 (by omega) (by omega)]
  simp only [Option.bind_some, c_b_mk]
 ·rw [zAW]; simp
theorem zM4 (l : List Val) (g : Nat) (fs cs : List PV) (f : Val → Bool) (hl : l.length ≤ 9223372036854775807) (hf : ∀ x ∈ l, wc W g (fs ++ [x.pv] ++ cs) = some (.bool (f x))) :
 wc W zI [rowp l, .fn g fs cs] = some (.bool (l.any f)) := by
 have h := zBe (l.map Val.pv) (.fn g fs cs)
 rw [zR] at h
 rw [h, zU8 l g fs cs f hl hf]
 simp [← zGa]
def mayV (v : Val) : Bool := decide (v.K = 0) || ((decide (v.K = 1) || decide (v.K = 2)) && decide (v.N = 0))
theorem zIA (v : Val) : wc W zEn [v.pv] = some (.bool (mayV v)) := by
 have h := zSu v.K v.N
 rw [Val.fold] at h
 rw [h]
 unfold mayV
 by_cases h0 : v.K = 0
 ·rw [h0]; simp
 ·by_cases h1 : v.K = 1
  ·rw [h1]; simp [BEq.beq]
  ·by_cases h2 : v.K = 2
   ·rw [h2]; simp [BEq.beq]
   ·by_cases a : v.K ≥ 0
    ·rw [decide_eq_true a, decide_eq_false (show ¬ v.K < 3 by omega)]; simp [h0, h1, h2]
    ·rw [decide_eq_false a]; simp [h0, h1, h2]
end Go.Cf

namespace Go.Cf
open Go Go.Ab
set_option linter.unusedVariables false
set_option linter.unusedSimpArgs false
def bagp (c : List Int) (r : List (List Val)) : PV := .agg [zAs c, tabp r]
@[simp] theorem zAX (c : List Int) (r : List (List Val)) : PV.agg [zAs c, tabp r] = bagp c r := rfl
@[simp] theorem zIB (c : List Int) (r : List (List Val)) {R : Type} (f : List PV → List PV → Option R) : zAJ (bagp c r) f = f (c.map intp) (r.map rowp) := rfl
theorem zIo {α : Type} (l : List α) (f : α → Bool) : (!l.any fun x => !f x) = l.all f := by
 induction l with
 | nil => rfl
 | cons a l ih => simp only [List.any_cons, List.all_cons, Bool.not_or, Bool.not_not, ih]
def upd (f : Nat → Bool) (v : Nat) : Nat → Bool := fun k => bif k == 0 + v * 1 then true else f k
def goC : (Nat → Bool) → List Int → Option (Nat → Bool)
 | f, [] => some f
 | f, c :: r => bif (decide (0 ≤ c) && decide (c ≤ 15)) && !f c.toNat then goC (upd f c.toNat) r else none
noncomputable def M1 (l1 l2 l3 : List PV) (n i : Int) (f : Nat → Bool) : Option PV := zFQ l1 l2 l3 n i (f 0) (f 1) (f 2) (f 3) (f 4) (f 5) (f 6) (f 7) (f 8) (f 9) (f 10) (f 11) (f 12) (f 13) (f 14) (f 15)
noncomputable def M2 (l1 l2 l3 : List PV) (n i : Int) (f : Nat → Bool) : Option PV := zFR l1 l2 l3 n i (f 0) (f 1) (f 2) (f 3) (f 4) (f 5) (f 6) (f 7) (f 8) (f 9) (f 10) (f 11) (f 12) (f 13) (f 14) (f 15)
theorem zXq (f : Nat → Bool) : ∀ v : Nat, v < 16 → PV.load 17 (.agg [.bool (f 0), .bool (f 1), .bool (f 2), .bool (f 3), .bool (f 4), .bool (f 5), .bool (f 6), .bool (f 7), .bool (f 8), .bool (f 9), .bool (f 10), .bool (f 11), .bool (f 12), .bool (f 13), .bool (f 14), .bool (f 15)]) (0 + v * 1) 0 = some (.bool (f v))
 | 0, _ => rfl | 1, _ => rfl | 2, _ => rfl | 3, _ => rfl | 4, _ => rfl | 5, _ => rfl | 6, _ => rfl | 7, _ => rfl
 | 8, _ => rfl | 9, _ => rfl | 10, _ => rfl | 11, _ => rfl | 12, _ => rfl | 13, _ => rfl | 14, _ => rfl | 15, _ => rfl
 | n + 16, h => by omega
theorem zNr (cols : List Int) (rows : List PV) (hl : cols.length ≤ 9223372036854775807) : ∀ (k i : Nat) (f : Nat → Bool), i + k = cols.length →
 M1 (cols.map intp) rows (cols.map intp) (cols.length : Int) (i : Int) f = match goC f (cols.drop i) with | some f' => M2 (cols.map intp) rows rows ((rows.length : Nat) : Int) 0 f' | none => some (.bool false)
 | 0, i, f, h => by
  unfold M1
  rw [zGn, show i = cols.length by omega]
  simp only [zCt, cond_false, List.drop_length, goC]
  rfl
 | k + 1, i, f, h => by
  have hi : i < cols.length := by omega
  unfold M1
  rw [zGn, List.drop_eq_getElem_cons hi, goC]
  simp only [zAZ hi, zAM, cond_true, Int.toNat_natCast, List.getElem?_map, List.getElem?_eq_getElem hi, Option.map_some, Option.bind_some, zGq]
  by_cases h0 : cols[i] < 0
  ·rw [decide_eq_true h0, decide_eq_false (show ¬ 0 ≤ cols[i] by omega)]; rfl
  rw [decide_eq_false h0, decide_eq_true (show 0 ≤ cols[i] by omega)]
  by_cases h15 : cols[i] > 15
  ·rw [decide_eq_true h15, decide_eq_false (show ¬ cols[i] ≤ 15 by omega)]; rfl
  rw [decide_eq_false h15, decide_eq_true (show cols[i] ≤ 15 by omega), decide_eq_true (show cols[i] < 16 by omega)]
  simp only [cond_false, Bool.and_self, cond_true, Bool.true_and, zXq f cols[i].toNat (by omega), Option.bind_some, c_b_mk]
  cases hf : f cols[i].toNat with
  | true => rfl
  | false =>
   simp only [cond_false, Bool.not_false, cond_true, decide_eq_true (show 0 + cols[i].toNat * 1 + 1 ≤ 16 by omega), Bool.and_true]
   rw [zA3 (by omega) (by omega)]
   exact zNr cols rows hl k (i + 1) (upd f cols[i].toNat) (by omega)
theorem zTG : ∀ (cols : List Int) (f : Nat → Bool), (goC f cols).isSome = true ↔ (∀ c ∈ cols, (0 ≤ c ∧ c ≤ 15) ∧ f c.toNat = false) ∧ cols.Nodup
 | [], f => by simp [goC]
 | c :: r, f => by
  unfold goC
  cases hb : (decide (0 ≤ c) && decide (c ≤ 15)) && !f c.toNat with
  | false =>
   simp only [cond_false, Option.isSome_none, Bool.false_eq_true, false_iff, not_and]
   intro h
   have := h c (by simp)
   rw [decide_eq_true this.1.1, decide_eq_true this.1.2, this.2] at hb
   cases hb
  | true =>
   simp only [cond_true]
   rw [zTG r]
   simp only [Bool.and_eq_true, decide_eq_true_eq, Bool.not_eq_true'] at hb
   obtain ⟨⟨c0, c15⟩, hf⟩ := hb
   simp only [List.nodup_cons, List.mem_cons, forall_eq_or_imp, upd, Nat.zero_add, Nat.mul_one]
   constructor
   ·rintro ⟨h1, h2⟩
    refine ⟨⟨⟨⟨c0, c15⟩, hf⟩, fun x hx => ⟨(h1 x hx).1, ?_⟩⟩, ?_, h2⟩
    ·have := (h1 x hx).2
     cases e : (x.toNat == c.toNat) with
     | true => rw [e] at this; cases this
     | false => rw [e] at this; exact this
    ·intro hc
     have := (h1 c hc).2
     rw [zNq rfl] at this; cases this
   ·rintro ⟨⟨_, h1⟩, h2, h3⟩
    refine ⟨fun x hx => ⟨(h1 x hx).1, ?_⟩, h3⟩
    have hne : x ≠ c := fun e => h2 (e ▸ hx)
    have := (h1 x hx).1
    rw [zER (show x.toNat ≠ c.toNat by omega)]
    exact (h1 x hx).2
def zR0 (cols : List Int) : Bool := (goC (fun _ => false) cols).isSome
theorem zKs (cols : List Int) : zR0 cols = true ↔ (∀ c ∈ cols, 0 ≤ c ∧ c ≤ 15) ∧ cols.Nodup := by
 unfold zR0
 rw [zTG]
 simp
def rowB (n : Nat) (r : List Val) : Bool := decide (r.length = n) && r.all mayV
def mayB (c : List Int) (r : List (List Val)) : Bool := zR0 c && r.all (rowB c.length) && decide (r.length ≤ 5000)
theorem zWE (v : Val) : wc W zEC [v.pv] = some (.bool (!mayV v)) := by
 have h := zPF v.K v.N
 rw [Val.fold] at h
 rw [h, zIA]; rfl
theorem zGI (c : List Int) (r : List (List Val)) (hc : c.length ≤ 9223372036854775807) (hr : r.length ≤ 9223372036854775807) (hl : ∀ x ∈ r, x.length ≤ 9223372036854775807) : wc W zDz [bagp c r] = some (.bool (mayB c r)) := by
 have h := zSs (c.map intp) (r.map rowp)
 rw [zA, zAN, zAX] at h
 have h1 := zNr c (r.map rowp) hc c.length 0 (fun _ => false) (by omega)
 rw [List.drop_zero] at h1
 rw [h, List.length_map]
 refine h1.trans ?_
 unfold mayB zR0
 cases hg : goC (fun _ => false) c with
 | none => rfl
 | some f =>
  simp only [Option.isSome_some, Bool.true_and, List.length_map]
  rw [zJm (fun i => M2 (c.map intp) (r.map rowp) (r.map rowp) (r.length : Int) i f) r.length (fun i => (r[i]?).all (rowB c.length)) (some (.bool false)) (some (.bool (decide (r.length ≤ 5000)))) ?_ ?_, zTE]
  ·cases r.all (rowB c.length) <;> rfl
  ·intro i hi
   unfold M2
   rw [zGo]
   simp only [List.length_map, zAZ hi, zAM, cond_true, Int.toNat_natCast, List.getElem?_map, List.getElem?_eq_getElem hi, Option.map_some, Option.bind_some, zGH, zR, Option.all_some, zM4 r[i] zEC [] [] (fun v => !mayV v) (hl _ (List.getElem_mem hi)) (fun x _ => zWE x), c_b_mk]
   rw [zA3 (by omega) (by omega)]
   unfold rowB
   by_cases e : r[i].length = c.length
   ·rw [zTF (by rw [e]), decide_eq_true e, ← zIo]
    cases r[i].any fun v => !mayV v <;> rfl
   ·rw [zNp (by omega), decide_eq_false e]; rfl
  ·unfold M2
   rw [zGo]
   simp only [List.length_map, zCt, cond_false]
   congr 2
   have : ((r.length : Int) ≤ 5000) = (r.length ≤ 5000) := by apply propext; omega
   simp only [this]
theorem zTH {c : List Int} (h : zR0 c = true) : c.length ≤ 16 := by
 obtain ⟨h1, h2⟩ := (zKs c).1 h
 have hsub : c ⊆ (List.range 16).map fun n : Nat => (n : Int) := by
  intro x hx
  have := h1 x hx
  rw [List.mem_map]
  exact ⟨x.toNat, by simp; omega, by omega⟩
 have := List.Nodup.length_le_of_subset h2 hsub
 simpa using this
theorem zCl {c : List Int} {r : List (List Val)} (h : mayB c r = true) : c.length ≤ 16 ∧ r.length ≤ 5000 ∧ ∀ x ∈ r, x.length = c.length ∧ x.all mayV = true := by
 unfold mayB at h
 simp only [Bool.and_eq_true, decide_eq_true_eq, List.all_eq_true] at h
 refine ⟨zTH h.1.1, h.2, fun x hx => ?_⟩
 have := h.1.2 x hx
 unfold rowB at this
 simp only [Bool.and_eq_true, decide_eq_true_eq] at this
 exact this
def bagR (x : Option (List Int × List (List Val))) : PV := match x with | some b => .tup [bagp b.1 b.2, .bool true] | none => .tup [bagp [] [], .bool false]
end Go.Cf

namespace Go.Cf
open Go Go.Ab
set_option linter.unusedVariables false
set_option linter.unusedSimpArgs false
def badV : Val := ⟨2, 0⟩
def VOk (v : Val) : Prop := I64 v.K ∧ I64 v.N
def zCc (cols : List Int) (row : List Val) (c : Int) : Val := bif decide (idxI cols (fun x => c == x) < 0) then badV else bif decide (idxI cols (fun x => c == x) ≥ (row.length : Int)) then badV else row.getD (idxI cols (fun x => c == x)).toNat badV
theorem zPP (l : List Int) (n : Int) (hl : l.length ≤ 9223372036854775807) : wc W zA0 [zAs l, .int .i64 n] = some (.int .i64 (idxI l (fun x => n == x))) := by
 have h := zFa (l.map intp) n
 rw [zA] at h
 rw [h, List.length_map]
 refine zGb (fun i => zAf (l.map intp) n l.length i) l (fun x => n == x) (fun n => some (.int .i64 n)) (fun i hi => ?_) ?_
 ·rw [zBw]
  simp only [zAZ hi, zAM, cond_true, Int.toNat_natCast, List.getElem?_map, List.getElem?_eq_getElem hi, Option.map_some, Option.bind_some, zGq]
  rw [zA3 (by omega) (by omega)]
 ·rw [zBw]; simp
theorem zTI {α : Type} [DecidableEq α] {R : Type} (L : Int → Option R) (a b : List α) (e : a.length = b.length) (r s : Option R) (hs : ∀ i : Nat, ∀ (h : i < a.length) (h' : i < b.length), L (i : Int) = bif decide (a[i] = b[i]) then L ((i : Int) + 1) else r) (he : L (a.length : Int) = s) :
 L 0 = bif decide (a = b) then s else r := by
 rw [zJm L a.length (fun i => decide (a[i]? = b[i]?)) r s (fun i hi => ?_) he, zXp a b e]
 have hi' : i < b.length := by omega
 rw [hs i hi hi', List.getElem?_eq_getElem hi, List.getElem?_eq_getElem hi']
 simp only [Option.some.injEq]
theorem zU9 (cols : List Int) {row : List Val} (h : ∀ v ∈ row, VOk v) (c : Int) : VOk (zCc cols row c) := by
 have hb : VOk badV := ⟨⟨by decide, by decide⟩, ⟨by decide, by decide⟩⟩
 unfold zCc
 cases decide (idxI cols (fun x => c == x) < 0) with
 | true => exact hb
 | false =>
  cases decide (idxI cols (fun x => c == x) ≥ (row.length : Int)) with
  | true => exact hb
  | false =>
   simp only [cond_false]
   rw [List.getD_eq_getElem?_getD]
   cases hr : row[(idxI cols (fun x => c == x)).toNat]? with
   | none => exact hb
   | some v => exact h v (List.mem_of_getElem? hr)
def ROk (r : List Val) : Prop := ∀ v ∈ r, VOk v
def inC (c : List Int) (x : Int) : Bool := decide (x ∈ c)
theorem zIp {c : List Int} {x : Int} : decide (idxI c (fun y => x == y) < 0) = !inC c x := by
 have h := zGa c (fun y => x == y)
 have h2 : c.any (fun y => x == y) = inC c x := by
  unfold inC
  rw [Bool.eq_iff_iff, List.any_eq_true, decide_eq_true_eq]
  constructor
  ·rintro ⟨y, hy, e⟩; rw [beq_iff_eq] at e; subst e; exact hy
  ·intro h; exact ⟨x, h, by simp⟩
 rw [h2] at h
 rw [← h]
 by_cases hh : idxI c (fun y => x == y) < 0
 ·rw [decide_eq_true hh, decide_eq_false (by omega)]; rfl
 ·rw [decide_eq_false hh, decide_eq_true (by omega)]; rfl
theorem zQD (c : List Int) (x : Int) : idxI c (fun y => x == y) < (c.length : Int) := by
 unfold idxI
 cases h : c.findIdx? (fun y => x == y) with
 | none => simp only; omega
 | some i =>
  obtain ⟨hi, _⟩ := List.findIdx?_eq_some_iff_getElem.1 h
  simp only; omega
theorem zGc {c : List Int} {row : List Val} {x : Int} (h : inC c x = true) (hl : row.length = c.length) : (row[(idxI c (fun y => x == y)).toNat]? = some (zCc c row x)) ∧ 0 ≤ idxI c (fun y => x == y) := by
 have h1 : decide (idxI c (fun y => x == y) < 0) = false := by rw [zIp, h]; rfl
 have h2 := of_decide_eq_false h1
 have h3 := zQD c x
 refine ⟨?_, by omega⟩
 unfold zCc
 rw [h1, decide_eq_false (show ¬ idxI c (fun y => x == y) ≥ (row.length : Int) by omega)]
 have hlt : (idxI c (fun y => x == y)).toNat < row.length := by omega
 simp only [cond_false, List.getElem?_eq_getElem hlt, List.getD_eq_getElem?_getD, Option.getD_some]
def atC (c cols : List Int) : List Int := cols.map fun x => idxI c (fun y => x == y)
def zBR (c cols : List Int) (row : List Val) : List Val := cols.map (zCc c row)
theorem zQE {c : List Int} {x : Int} (h : inC c x = true) : c[(idxI c (fun y => x == y)).toNat]? = some x := by
 have h1 : decide (idxI c (fun y => x == y) < 0) = false := by rw [zIp, h]; rfl
 have h2 := of_decide_eq_false h1
 unfold idxI at h2 ⊢
 cases hf : c.findIdx? (fun y => x == y) with
 | none => rw [hf] at h2; simp only at h2; omega
 | some i =>
  obtain ⟨hi, e, _⟩ := List.findIdx?_eq_some_iff_getElem.1 hf
  simp only [Int.toNat_natCast, List.getElem?_eq_getElem hi]
  rw [beq_iff_eq] at e
  rw [e]
theorem zNs {c cols : List Int} {row : List Val} {y : Int} (h : inC cols y = true) : zCc cols (zBR c cols row) y = zCc c row y := by
 have h1 := (zGc (row := zBR c cols row) h (by unfold zBR; rw [List.length_map])).1
 have h2 := zQE h
 unfold zBR at h1
 rw [List.getElem?_map, h2, Option.map_some] at h1
 exact (Option.some.inj h1).symm
theorem zKt {α : Type} : ∀ {l : List α}, l.Nodup → ∀ {j k : Nat} {o : α}, l[j]? = some o → l[k]? = some o → j = k
 | [], _, _, _, _, h, _ => by simp at h
 | x :: r, hn, 0, 0, o, h, hk => rfl
 | x :: r, hn, 0, k + 1, o, h, hk => by
  simp only [List.getElem?_cons_zero, Option.some.injEq] at h; subst h
  exact absurd (List.mem_of_getElem? (by simpa using hk)) (List.nodup_cons.1 hn).1
 | x :: r, hn, j + 1, 0, o, h, hk => by
  simp only [List.getElem?_cons_zero, Option.some.injEq] at hk; subst hk
  exact absurd (List.mem_of_getElem? (by simpa using h)) (List.nodup_cons.1 hn).1
 | x :: r, hn, j + 1, k + 1, o, h, hk => by
  exact congrArg (· + 1) (zKt (o := o) (List.nodup_cons.1 hn).2 (by simpa using h) (by simpa using hk))
theorem place_of {is : List Nat} (hn : is.Nodup) {o j : Nat} (h : is[j]? = some o) : zCv is o = some j := by
 cases hp : zCv is o with
 | none => exact absurd (List.mem_of_getElem? h) (zIV hp)
 | some k =>
  have hk := zCy hp
  exact congrArg some (zKt hn h hk).symm
theorem zIC {c : List Int} {row : List Val} (hn : c.Nodup) (hl : row.length = c.length) : zBR c c row = row := by
 unfold zBR
 apply List.ext_getElem?
 intro i
 rw [List.getElem?_map]
 by_cases hi : i < c.length
 ·rw [List.getElem?_eq_getElem hi, Option.map_some]
  have hin : inC c c[i] = true := by unfold inC; exact decide_eq_true (List.getElem_mem hi)
  have h1 := (zGc hin hl).1
  have h2 := zQE hin
  have hlt := (List.getElem?_eq_some_iff.1 h2).1
  have e : (idxI c (fun y => c[i] == y)).toNat = i := zKt hn h2 (List.getElem?_eq_getElem hi)
  rw [e] at h1
  exact h1.symm
 ·rw [List.getElem?_eq_none (by omega), List.getElem?_eq_none (by omega)]; rfl
theorem zR1 {c : List Int} {r : List (List Val)} (h : mayB c r = true) : zR0 c = true ∧ r.all (rowB c.length) = true ∧ r.length ≤ 5000 := by
 unfold mayB at h
 simp only [Bool.and_eq_true, decide_eq_true_eq] at h
 exact ⟨h.1.1, h.1.2, h.2⟩
theorem zUa {c : List Int} {r : List (List Val)} (h : mayB c r = true) : mayB c [] = true := by
 unfold mayB; rw [(zR1 h).1]; rfl
end Go.Cf

namespace Go.Cf
open Go Go.Ab
set_option linter.unusedVariables false
set_option linter.unusedSimpArgs false
def zXr : Val := ⟨1, 0⟩
def zKu (v : Val) : Val := bif mayV v then v else badV
def oddV (l : List Val) : Option Val := bif l.any (fun v => (zKu v).K == 2) then some badV else bif l.any (fun v => (zKu v).K == 1) then some zXr else none
def oneV (b : Bool) : Val := ⟨0, bif b then 1 else 0⟩
def zJb (a b : Val) (f : Int → Int → Option Int) : Val := match oddV [a, b] with | some v => v | none => match f a.N b.N with | some n => ⟨0, n⟩ | none => badV
def inI (n : Int) : Bool := decide (-9223372036854775808 ≤ n) && decide (n ≤ 9223372036854775807)
def addO (x y : Int) : Option Int := bif inI (x + y) then some (x + y) else none
def subO (x y : Int) : Option Int := bif inI (x - y) then some (x - y) else none
def mulO (x y : Int) : Option Int := bif inI (x * y) then some (x * y) else none
def divO (x y : Int) : Option Int := bif y == 0 || (x == -9223372036854775808 && y == -1) then none else some (Int.tdiv x y)
def eqV (a b : Val) : Val := match oddV [a, b] with | some v => v | none => oneV (decide (a = b))
def ltV (a b : Val) : Val := match oddV [a, b] with | some v => v | none => oneV (decide (a.N < b.N))
def zR2 (v : Val) : Bool := v.K == 0 && v.N != 0
def zNt (v : Val) : Bool := v.K == 0 && v.N == 0
def andV (l : List Val) : Val := bif l.any zNt then ⟨0, 0⟩ else match oddV l with | some v => v | none => ⟨0, 1⟩
def orV (l : List Val) : Val := bif l.any zR2 then ⟨0, 1⟩ else match oddV l with | some v => v | none => ⟨0, 0⟩
def notV (v : Val) : Val := match oddV [v] with | some w => w | none => oneV (v.N == 0)
theorem zWF : wc W zFv [] = some badV.pv := zSw
theorem zXs : wc W zIh [] = some zXr.pv := zRV
theorem w_Of (n : Int) : wc W zDJ [.int .i64 n] = some (Val.mk 0 n).pv := zU2 n
theorem w_of (b : Bool) : wc W zHl [.bool b] = some (oneV b).pv := by
 rw [zU4, w_Of, w_Of]
 cases b <;> rfl
theorem zXt (v : Val) : wc W zIj [v.pv] = some (zKu v).pv := by
 have h := zRX v.K v.N
 rw [Val.fold] at h
 rw [h, zIA, zWF]
 unfold zKu
 cases mayV v <;> rfl
theorem zTJ (v : Val) (k : Int) : wc W zC0 [v.pv, .imm 0 (.int .i64 k) 0] = some (.bool ((zKu v).K == k)) := by
 have h := zNl v.K v.N k
 rw [Val.fold] at h
 rw [h, zXt]; rfl
theorem zXu (k : Int) : wc W zG7 [.int .i64 k] = some (.fn zC0 [] [.imm 0 (.int .i64 k) 0]) := zRU k
theorem zPQ (l : List Val) (g : Nat) (fs cs : List PV) (f : Val → Bool) (hl : l.length ≤ 9223372036854775807) (hf : ∀ x ∈ l, wc W g (fs ++ [x.pv] ++ cs) = some (.bool (f x))) :
 wc W zBI [rowp l, .fn g fs cs] = some (.bool (l.any f)) := by
 have h := zHy (l.map Val.pv) (.fn g fs cs)
 rw [zR] at h
 rw [h, zM4 l g fs cs f hl hf]; rfl
def oddP (l : List Val) : PV := match oddV l with | some v => .tup [v.pv, .bool true] | none => .tup [(Val.mk 0 0).pv, .bool false]
theorem zTK (l : List Val) (hl : l.length ≤ 9223372036854775807) : wc W zED [rowp l] = some (oddP l) := by
 have h := zSx (l.map Val.pv)
 rw [zR] at h
 rw [h]
 simp only [zXu, Option.bind_some, zPQ l zC0 [] [.imm 0 (.int .i64 2) 0] (fun v => (zKu v).K == 2) hl (fun x _ => zTJ x 2), zPQ l zC0 [] [.imm 0 (.int .i64 1) 0] (fun v => (zKu v).K == 1) hl (fun x _ => zTJ x 1), c_b_mk, zWF, zXs]
 unfold oddP oddV
 cases l.any (fun v => (zKu v).K == 2) <;> cases l.any (fun v => (zKu v).K == 1) <;> rfl
theorem row2 (a b : Val) : PV.slice 3 [a.pv, b.pv] = rowp [a, b] := rfl
theorem row1 (a : Val) : PV.slice 3 [a.pv] = rowp [a] := rfl
theorem zJn (a b : Val) (g : Nat) (f : Int → Int → Option Int) (hg : ∃ n, wc W g [.int .i64 a.N, .int .i64 b.N] = some (.tup [.int .i64 ((f a.N b.N).getD n), .bool (f a.N b.N).isSome])) :
 wc W zC2 [a.pv, b.pv, .fn g [] []] = some (zJb a b f).pv := by
 have h := zNo a.K a.N b.K b.N (.fn g [] [])
 simp only [Val.fold, row2] at h
 obtain ⟨n, hg⟩ := hg
 rw [h, zTK [a, b] (by simp)]
 unfold zJb oddP
 cases oddV [a, b] with
 | some v => simp
 | none =>
  simp only [Option.bind_some, asTup_mk, List.getElem?_cons_zero, List.getElem?_cons_succ, Val.c_mk, c_b_mk, cond_false, asFn_mk, List.nil_append, List.append_nil, hg, c_i64_mk, zWF, w_Of, Val.fold]
  cases f a.N b.N <;> rfl
theorem zTL (n : Int) : IntKind.wrap .i64 n = (n + 9223372036854775808) % 18446744073709551616 - 9223372036854775808 := by
 simp only [IntKind.wrap, IntKind.bits, IntKind.signed]
 simp
 omega
theorem zY5 (a b : Val) (ha : I64 a.N) (hb : I64 b.N) : wc W zHm [a.pv, b.pv] = some (zJb a b addO).pv := by
 have h := zSy a.K a.N b.K b.N
 simp only [Val.fold] at h
 rw [h, zJn a b zHN addO ⟨IntKind.wrap .i64 (a.N + b.N), ?_⟩]
 ·simp
 ·rw [zPK]
  obtain ⟨a1, a2⟩ := ha
  obtain ⟨b1, b2⟩ := hb
  unfold addO inI
  by_cases hi : -9223372036854775808 ≤ a.N + b.N ∧ a.N + b.N ≤ 9223372036854775807
  ·rw [decide_eq_true hi.1, decide_eq_true hi.2, zA3 hi.1 hi.2]
   have : (decide (a.N + b.N < a.N) == decide (b.N < 0)) = true := by
    rw [beq_iff_eq, decide_eq_decide]; omega
   rw [this]; rfl
  ·have hb' : (decide (-9223372036854775808 ≤ a.N + b.N) && decide (a.N + b.N ≤ 9223372036854775807)) = false := by rw [← Bool.decide_and]; exact decide_eq_false hi
   rw [hb']
   have : (decide (IntKind.wrap .i64 (a.N + b.N) < a.N) == decide (b.N < 0)) = false := by
    rw [beq_eq_false_iff_ne, ne_eq, decide_eq_decide, zTL]; omega
   rw [this]; rfl
theorem zY6 (a b : Val) (ha : I64 a.N) (hb : I64 b.N) : wc W zHn [a.pv, b.pv] = some (zJb a b subO).pv := by
 have h := zSz a.K a.N b.K b.N
 simp only [Val.fold] at h
 rw [h, zJn a b zHO subO ⟨IntKind.wrap .i64 (a.N - b.N), ?_⟩]
 ·simp
 ·rw [zPL]
  obtain ⟨a1, a2⟩ := ha
  obtain ⟨b1, b2⟩ := hb
  unfold subO inI
  by_cases hi : -9223372036854775808 ≤ a.N - b.N ∧ a.N - b.N ≤ 9223372036854775807
  ·rw [decide_eq_true hi.1, decide_eq_true hi.2, zA3 hi.1 hi.2]
   have : (decide (a.N - b.N > a.N) == decide (b.N < 0)) = true := by
    rw [beq_iff_eq, decide_eq_decide]; omega
   rw [this]; rfl
  ·have hb' : (decide (-9223372036854775808 ≤ a.N - b.N) && decide (a.N - b.N ≤ 9223372036854775807)) = false := by rw [← Bool.decide_and]; exact decide_eq_false hi
   rw [hb']
   have : (decide (IntKind.wrap .i64 (a.N - b.N) > a.N) == decide (b.N < 0)) = false := by
    rw [beq_eq_false_iff_ne, ne_eq, decide_eq_decide, zTL]; omega
   rw [this]; rfl
theorem zY7 (a b : Val) (ha : I64 a.N) (hb : I64 b.N) : wc W zHp [a.pv, b.pv] = some (zJb a b divO).pv := by
 have h := zTB a.K a.N b.K b.N
 simp only [Val.fold] at h
 rw [h, zJn a b zHP divO ⟨0, ?_⟩]
 ·simp
 ·rw [zPN]
  unfold divO
  cases h0 : (b.N == 0) with
  | true => rfl
  | false =>
   have hJ : (a.N == -9223372036854775808 && b.N == -1) = false → zDe a.N b.N = some (.tup [.int .i64 (Int.tdiv a.N b.N), .bool true]) := fun hn => by
    rw [zJa, h0]
    obtain ⟨a1, a2⟩ := ha
    have hb0 : b.N ≠ 0 := by simpa using h0
    have hr : -9223372036854775808 ≤ Int.tdiv a.N b.N ∧ Int.tdiv a.N b.N ≤ 9223372036854775807 := by
     have h1 : (Int.tdiv a.N b.N).natAbs ≤ a.N.natAbs := by
      rw [Int.natAbs_tdiv]
      exact Nat.div_le_self _ _
     by_cases hm : Int.tdiv a.N b.N = 9223372036854775808
     ·exfalso
      have hA : a.N = -9223372036854775808 := by omega
      rw [hA] at hm hn
      have hb1 : b.N ≠ -1 := by intro e; rw [e] at hn; cases hn
      have h2 : (Int.tdiv (-9223372036854775808) b.N).natAbs = 9223372036854775808 / b.N.natAbs := by rw [Int.natAbs_tdiv]; rfl
      rw [hm] at h2
      have h3 : b.N.natAbs = 1 := by
       rcases Nat.lt_or_ge b.N.natAbs 2 with h | h
       ·omega
       ·have : 9223372036854775808 / b.N.natAbs ≤ 9223372036854775808 / 2 := Nat.div_le_div_left h (by omega)
        have h4 : (9223372036854775808 : Int).natAbs = 9223372036854775808 := rfl
        omega
      have hb2 : b.N = 1 := by omega
      rw [hb2] at hm
      simp at hm
     ·omega
    rw [zA3 hr.1 hr.2]; rfl
   simp only [cond_false, Bool.false_or]
   cases h1 : (a.N == -9223372036854775808) with
   | false =>
    rw [h1] at hJ
    simp only [cond_false, Bool.false_and, hJ (by rfl)]; rfl
   | true =>
    rw [h1] at hJ
    cases h2 : (b.N == -1) with
    | true => rfl
    | false =>
     rw [h2] at hJ
     simp only [cond_true, cond_false, Bool.and_false, hJ (by rfl)]; rfl
theorem w_Eq (a b : Val) : wc W zJj [a.pv, b.pv] = some (eqV a b).pv := by
 have h := zU3 a.K a.N b.K b.N
 simp only [Val.fold, row2] at h
 rw [h, zTK [a, b] (by simp)]
 unfold eqV oddP
 cases oddV [a, b] with
 | some v => simp
 | none =>
  simp only [Option.bind_some, asTup_mk, List.getElem?_cons_zero, List.getElem?_cons_succ, Val.c_mk, c_b_mk, cond_false]
  have key : ((bif (a.K == b.K) then (bif (a.N == b.N) then (some true) else (some false)) else (some false)) : Option Bool) = some (decide (a = b)) := by
   cases a; cases b
   simp only [Val.mk.injEq]
   rw [Bool.decide_and]
   rename_i k n k' n'
   show _ = some ((k == k') && (n == n'))
   cases k == k' <;> cases n == n' <;> rfl
  rw [key]
  simp only [Option.bind_some, c_b_mk, w_of, Val.c_mk, Val.fold]
theorem w_Lt (a b : Val) : wc W zJk [a.pv, b.pv] = some (ltV a b).pv := by
 have h := zU5 a.K a.N b.K b.N
 simp only [Val.fold, row2] at h
 rw [h, zTK [a, b] (by simp)]
 unfold ltV oddP
 cases oddV [a, b] with
 | some v => simp
 | none => simp only [Option.bind_some, asTup_mk, List.getElem?_cons_zero, List.getElem?_cons_succ, Val.c_mk, c_b_mk, cond_false, w_of, Val.fold]
theorem zY8 (a : Val) : wc W zKh [a.pv] = some (notV a).pv := by
 have h := zTD a.K a.N
 simp only [Val.fold, row1] at h
 rw [h, zTK [a] (by simp)]
 unfold notV oddP
 cases oddV [a] with
 | some v => simp
 | none => simp only [Option.bind_some, asTup_mk, List.getElem?_cons_zero, List.getElem?_cons_succ, Val.c_mk, c_b_mk, cond_false, w_of, Val.fold]
theorem zVS (v : Val) : wc W zEp [v.pv] = some (.bool (zR2 v)) := by
 have h := zRT v.K v.N
 rw [Val.fold] at h
 rw [h]
 unfold zR2
 cases v.K == 0 <;> rfl
theorem zTM (v : Val) : wc W zD7 [v.pv] = some (.bool (zNt v)) := by
 have h := zM3 v.K v.N
 rw [Val.fold] at h
 rw [h, w_Of]
 unfold zNt
 simp only [Option.bind_some, Val.c_mk]
 cases v.K == 0 <;> cases v.N == 0 <;> rfl
theorem zTN (l : List Val) (g : Nat) (f : Val → Bool) (x y : Val) (hl : l.length ≤ 9223372036854775807) (hf : ∀ v ∈ l, wc W g [v.pv] = some (.bool (f v))) :
 wc W zFO [rowp l, .fn g [] [], x.pv, y.pv] = some (bif l.any f then x else match oddV l with | some v => v | none => y).pv := by
 have h := zPO (l.map Val.pv) (.fn g [] []) x.K x.N y.K y.N
 simp only [Val.fold, zR] at h
 rw [h, zPQ l g [] [] f hl hf, zTK l hl]
 unfold oddP
 cases l.any f with
 | true => rfl
 | false => cases oddV l <;> simp
theorem zY9 (l : List Val) (hl : l.length ≤ 9223372036854775807) : wc W zKg [rowp l] = some (andV l).pv := by
 have h := zTC (l.map Val.pv)
 rw [zR] at h
 rw [h, w_Of, w_Of]
 simp only [Option.bind_some, Val.c_mk, Val.fold, show PV.agg [PV.int .i64 0, PV.int .i64 0] = (Val.mk 0 0).pv from rfl, show PV.agg [PV.int .i64 0, PV.int .i64 1] = (Val.mk 0 1).pv from rfl, zTN l zD7 zNt ⟨0, 0⟩ ⟨0, 1⟩ hl (fun v _ => zTM v)]
 rfl
theorem w_Or (l : List Val) (hl : l.length ≤ 9223372036854775807) : wc W zMS [rowp l] = some (orV l).pv := by
 have h := zU6 (l.map Val.pv)
 rw [zR] at h
 rw [h, w_Of, w_Of]
 simp only [Option.bind_some, Val.c_mk, Val.fold, show PV.agg [PV.int .i64 0, PV.int .i64 0] = (Val.mk 0 0).pv from rfl, show PV.agg [PV.int .i64 0, PV.int .i64 1] = (Val.mk 0 1).pv from rfl, zTN l zEp zR2 ⟨0, 1⟩ ⟨0, 0⟩ hl (fun v _ => zVS v)]
 rfl
end Go.Cf
