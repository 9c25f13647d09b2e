/- Part 12 of the proof: an abstract machine that runs the program's code over plain values, its soundness, and what the functions tell of plain values. Conditions: those in each theorem. -/
import Derived.Test.YtgebkpchpliahaaDoorA10
import Derived.WalkKit
import Derived.Deep.RegionWith
import Derived.Laws.Externs
import Derived.Deep.LoopGhost
import Derived.Lib.AtoiErrMem
import Derived.Lib.ItoaLen
import Derived.Test.YtgebkpchpliahaaDoorProg
set_option linter.unusedSectionVars false
namespace Go.Proofs
open Go.Shelf Go.RowKit Go.Sort
open Go.Ab (textL textL_app TextAt)
set_option linter.unusedVariables false
set_option maxHeartbeats 1000000
set_option maxRecDepth 100000
theorem Tryd.cc_fresh (b : Nat) (w : World) (h0 : w.cell? ⟨b, 0, none⟩ = some (.pointer none)) (hsh : w.shape? b = some (75, 2)) (hfz : w.frozen? ⟨b, 0, none⟩ = false) :
    Calls Tryd.prog 62 #[.pointer (some ⟨b, 0, none⟩)] w fun e w' => e = .returned (.tuple #[]) ∧ w' = w.setCell ⟨b, 0, none⟩ (.pointer (some ⟨b, 0, none⟩)) := by
  obtain ⟨j, hj, hjs⟩ := Option.map_eq_some_iff.1 Tryd.Builder_Extra_169.sizeBuilder
  have t72 := Tryd.underlying72
  have t111 := Tryd.underlying111
  have t75 := Tryd.underlying75
  go_enter Tryd.func62, Tryd.ntmps62
  go_wp2
  rw [Lib.run_to_unsafe w ⟨b, 0, none⟩ t72 t111 hj (by rw [hjs]; decide) hsh (Nat.zero_lt_succ 1)]
  simp only [Result.andThen]
  rw [Oper.upon_value]
  go_wp2
  rw [run_callFunc_extern Tryd.func78 (by kernel_rfl) (by kernel_rfl) (by kernel_rfl) (e := Extern.AbiNoEscape.same) (by kernel_rfl)]
  rw [Lib.run_noEscape]
  simp only [Result.andThen]
  rw [Oper.upon_value]
  go_wp2
  rw [Lib.run_from_unsafe w ⟨b, 0, none⟩ t111 t72 hj hsh Tryd.Builder_Extra_169.liesBuilder]
  simp only [Result.andThen]
  rw [Oper.upon_value]
  go_wp2
  go_end0
  exact ⟨rfl, rfl⟩
theorem Tryd.cc_used (b : Nat) (w : World) (h0 : w.cell? ⟨b, 0, none⟩ = some (.pointer (some ⟨b, 0, none⟩))) :
    Calls Tryd.prog 62 #[.pointer (some ⟨b, 0, none⟩)] w fun e w' => e = .returned (.tuple #[]) ∧ w' = w := by
  have t72 := Tryd.underlying72
  have t75 := Tryd.underlying75
  obtain ⟨j, hj, _⟩ := Option.map_eq_some_iff.1 Tryd.Builder_Extra_169.sizeBuilder
  go_enter Tryd.func62, Tryd.ntmps62
  go_wp2
  rw [Lib.run_neq_ptr_same w _ t72 hj]
  go_wp2
  go_end0
  exact ⟨rfl, rfl⟩
theorem Tryd.cc (B b : Nat) (bs : List Value) (w : World) (h : Lib.IsBuilder 75 5 B b bs w) :
    Calls Tryd.prog 62 #[.pointer (some ⟨b, 0, none⟩)] w fun e w' => e = .returned (.tuple #[]) ∧ Lib.BuilderAt 75 5 B b (.pointer (some ⟨b, 0, none⟩)) bs w' ∧ Below B w w' := by
  rcases h with h | h
  · refine (Tryd.cc_fresh b w h.cell0 h.shape h.frozen0).mono ?_
    rintro e w' ⟨rfl, rfl⟩
    exact ⟨rfl, h.used _, (Below.refl B w).setCell (p := ⟨b, 0, none⟩) h.1 _⟩
  · refine (Tryd.cc_used b w h.cell0).mono ?_
    rintro e w' ⟨rfl, rfl⟩
    exact ⟨rfl, h, Below.refl B _⟩
theorem Tryd.ws (B b : Nat) (bs : List Value) (s : ByteArray) (w : World) (h : Lib.IsBuilder 75 5 B b bs w) (hlen : bs.length + s.size ≤ 140737488355328) (hBw : B ≤ w.heap.size) :
    Calls Tryd.prog 45 #[.pointer (some ⟨b, 0, none⟩), .string s] w fun e w' => e = .returned (.tuple #[.int .i64 s.size, .nilIface]) ∧ Lib.BuilderAt 75 5 B b (.pointer (some ⟨b, 0, none⟩)) (bs ++ Lib.strCells s) w' ∧ Below B w w' := by
  obtain ⟨i0, hi, hz0, hz1, hz2⟩ := info_parts Tryd.Builder_Extra_169.infoByte
  have t72 := Tryd.underlying72
  have t75 := Tryd.underlying75
  go_enter Tryd.func45, Tryd.ntmps45
  go_wp2_with (go_at_call 62; refine (Tryd.cc B b bs _ h).mono ?_)
  rintro e w1 ⟨rfl, h1, hb1⟩
  obtain ⟨hB, v, hbk, hown, hne⟩ := h1
  have c0 : w1.cell? ⟨b, 0, none⟩ = some (.pointer (some ⟨b, 0, none⟩)) := by rw [Lib.cell_of_heap hbk]; rfl
  have c1 : w1.cell? ⟨b, 1, none⟩ = some v := by rw [Lib.cell_of_heap hbk]; rfl
  go_wp2_with (at_builtin; refine Lib.wpList_append_own_string _ rfl _ _ 73 9 rfl B 5 i0 Tryd.underlying73 Tryd.underlying9 hi hz0 hz1 hz2 _ _ _ rfl hown s rfl ?c3 ?c4 ?c5 ?_)
  case c3 => unfold maxLen; omega
  case c4 => omega
  case c5 => have := hb1.size; omega
  intro v' w2 hown' hgrow _
  have hlt : b < w1.heap.size := by
    rcases Nat.lt_or_ge b w1.heap.size with h' | h'
    · exact h'
    · simp [Array.getElem?_eq_none h'] at hbk
  have hb2 : w2.heap[b]? = some (.cells #[.pointer (some ⟨b, 0, none⟩), v] 75 (0, 0)) := by
    rw [hgrow.block b hlt (fun e => hne e.symm)]; exact hbk
  have d0 : w2.cell? ⟨b, 0, none⟩ = some (.pointer (some ⟨b, 0, none⟩)) := by rw [Lib.cell_of_heap hb2]; rfl
  have d1 : w2.cell? ⟨b, 1, none⟩ = some v := by rw [Lib.cell_of_heap hb2]; rfl
  have f1 : w2.frozen? ⟨b, 1, none⟩ = false := Lib.frozen_of_heap hb2 1
  obtain ⟨ao, n', cap, rfl⟩ : ∃ ao n' cap, v' = .slice ao n' cap := by
    rcases hown'.2 with ⟨hv, _⟩ | ⟨g, cap, cur, hv, _⟩
    · exact ⟨_, _, _, hv⟩
    · exact ⟨_, _, _, hv⟩
  go_wp2
  go_ret2
  refine ⟨rfl, ?_, ?_⟩
  · exact Lib.BuilderAt.put (T := 75) (e := 5) hB hb2 (bs' := bs ++ Lib.strCells s) (by simpa [Lib.strCells_length] using hown') Tryd.Builder_Extra_169.neB5
  · exact (hb1.grown hgrow (by have := hb1.size; omega) (fun k hk => (hown.lt k hk).1)).setCell (p := ⟨b, 1, none⟩) hB _
structure Hid (p : Prop) : Prop where
  out : p
theorem below_grow' (w : World) (k : Nat) (os : Array Obj) : Below w.heap.size w (grow (w.drewN k) os) :=
  ⟨rfl, rfl, rfl, by simp [grow, World.drewN], fun b hb => by
    show ((w.drewN k).heap ++ os)[b]? = _
    rw [Array.getElem?_append_left (by simpa [World.drewN] using hb)]
    rfl⟩
theorem le_ofB {B n : Nat} {w w' : World} (h : Below B w w') (hn : n ≤ w.heap.size) : n ≤ w'.heap.size := Nat.le_trans hn h.size
theorem textL_len : ∀ (xs : List (Int × Int)) (n : Nat), (∀ x ∈ xs, (-9223372036854775808 ≤ x.1 ∧ x.1 ≤ 9223372036854775807) ∧ -9223372036854775808 ≤ x.2 ∧ x.2 ≤ 9223372036854775807) → xs.length ≤ n → (textL xs).length ≤ 44 * n
  | [], n, _, _ => by simp [textL]
  | x :: r, n, h, hn => by
    obtain ⟨m, rfl⟩ : ∃ m, n = m + 1 := ⟨n - 1, by simp at hn; omega⟩
    have h1 := h x (by simp)
    have k1 := Lib.itoa_length_le x.1 h1.1.1 h1.1.2
    have k2 := Lib.itoa_length_le x.2 h1.2.1 h1.2.2
    have ih := textL_len r m (fun y hy => h y (by simp [hy])) (by simpa using hn)
    simp only [textL, List.length_append, List.length_singleton]
    omega
theorem tabIs_below {P : Program} {w W : World} {name : String} {k : IntKind} {zs : List Int} (h : Lib.TabIs P w name k zs) (hB : Below w.heap.size w W) : Lib.TabIs P W name k zs := by
  unfold Lib.TabIs World.var? at h ⊢
  cases hg : P.globalNamed name with
  | none => rw [hg] at h; cases h
  | some g =>
    rw [hg] at h
    simp only [Option.bind_some] at h ⊢
    have hlt : g < w.heap.size := by
      rcases Nat.lt_or_ge g w.heap.size with h' | h'
      · exact h'
      · rw [Array.getElem?_eq_none h'] at h; cases h
    rw [hB.block g hlt]
    exact h
theorem bld_below {T e : TypeId} {B b : Nat} {bs : List Value} {w W : World} (h : Lib.IsBuilder T e B b bs w) (hB : Below w.heap.size w W) : Lib.IsBuilder T e B b bs W := by
  have one : ∀ p, Lib.BuilderAt T e B b p bs w → Lib.BuilderAt T e B b p bs W := fun p h => by
    obtain ⟨h1, v, h2, h3, h4⟩ := h
    have hlt : b < w.heap.size := by
      rcases Nat.lt_or_ge b w.heap.size with h' | h'
      · exact h'
      · rw [Array.getElem?_eq_none h'] at h2; cases h2
    exact ⟨h1, v, (hB.block b hlt).trans h2, h3.kept (row := none) ⟨hB.os, hB.tape, hB.output, hB.size, fun j hj _ => hB.block j hj⟩ (by cases hv : v.ownBlock <;> simp), h4⟩
  exact h.elim (fun h => .inl (one _ h)) (fun h => .inr (one _ h))
theorem Tryd.text (base : Option Addr) (cap : Nat) (xs : List (Int × Int)) (w : World) (hcap : xs.length ≤ cap) (hlen : xs.length ≤ 1000000) (hr : ∀ x ∈ xs, (-9223372036854775808 ≤ x.1 ∧ x.1 ≤ 9223372036854775807) ∧ -9223372036854775808 ≤ x.2 ∧ x.2 ≤ 9223372036854775807)
    (hrow : TextAt w base xs) (htab : Lib.TabIs Tryd.prog w "internal/strconv.uint64pow10" .u64 Lib.pow10Tab) :
    Calls Tryd.prog 27 #[.slice base xs.length cap] w fun e w' => e = .returned (.string ⟨(textL xs).toArray⟩) ∧ Below w.heap.size w w' := by
  have t75 := Tryd.underlying75
  have t39 := Tryd.underlying39
  go_enter Tryd.func27, Tryd.ntmps27
  go_wp2_with fail
  go_loopw [8] (fun v8 wr => ∃ i : Nat, v8 = .int .i64 i ∧ i ≤ xs.length ∧ Lib.IsBuilder 75 5 w.heap.size w.heap.size (Lib.byteCells (textL (xs.take i))) wr ∧ Below w.heap.size w wr) (fun v8 wr => match v8 with | .int _ n => (xs.length - n).toNat | _ => 0)
  case atStart =>
    refine ⟨0, rfl, Nat.zero_le _, ?_, ?_⟩
    · exact Lib.fresh_isBuilder 75 5 w
    · exact (Below.refl w.heap.size w).alloc (Nat.le_refl _) _
  case round =>
    obtain ⟨i, rfl, hi, hb, hB⟩ := hrel
    by_cases hlt : i < xs.length
    · have hx : xs[i]? = some xs[i] := List.getElem?_eq_getElem hlt
      obtain ⟨b, o, hbase, hc1, hc2⟩ := hrow i xs[i] hx
      have hrx := hr xs[i] (List.getElem_mem hlt)
      generalize xs[i] = x at hx hc1 hc2 hrx
      obtain ⟨kk, nn⟩ := x
      subst hbase
      have hbl : b < w.heap.size := Lib.lt_of_cell hc1
      have k1 : wr.cell? ⟨b, o + i * 2, none⟩ = some (.int .i64 kk) := (hB.cell (p := ⟨b, o + i * 2, none⟩) hbl).trans hc1
      have k2 : wr.cell? ⟨b, o + i * 2 + 1, none⟩ = some (.int .i64 nn) := (hB.cell (p := ⟨b, o + i * 2 + 1, none⟩) hbl).trans hc2
      have hd : decide ((i : Int) < (xs.length : Int)) = true := by simp; omega
      have hlw := hB.size
      have tab : ∀ W : World, Below w.heap.size w W → Lib.TabIs Tryd.prog W "internal/strconv.uint64pow10" .u64 Lib.pow10Tab := fun W hW => tabIs_below htab hW
      go_wp2_with fail
      generalize hW0 : wr.alloc (Obj.cells #[Value.int IntKind.i64 kk, Value.int IntKind.i64 nn] 39) = W0
      have hB0 : Below wr.heap.size wr W0 := by rw [← hW0]; exact (Below.refl wr.heap.size wr).alloc (Nat.le_refl _) _
      have hsz0 : W0.heap.size = wr.heap.size + 1 := by rw [← hW0]; simp
      have q1 : W0.cell? ⟨wr.heap.size, 0, none⟩ = some (.int .i64 kk) := by rw [← hW0, Lib.cell_of_heap (heap_alloc_new wr _)]; rfl
      have q2 : W0.cell? ⟨wr.heap.size, 1, none⟩ = some (.int .i64 nn) := by rw [← hW0, Lib.cell_of_heap (heap_alloc_new wr _)]; rfl
      have HB0 := Hid.mk hB0
      have HB := Hid.mk hB
      clear hW0 hB0 k1 k2 hc1 hc2
      have tab0 : ∀ W : World, Below W0.heap.size W0 W → Lib.TabIs Tryd.prog W "internal/strconv.uint64pow10" .u64 Lib.pow10Tab := fun W hW => tab W (HB.out.trans ((HB0.out.trans (hW.mono (by omega))).mono hlw))
      have hd0 : Below W0.heap.size W0 W0.drew := ⟨rfl, rfl, rfl, Nat.le_refl _, fun _ _ => rfl⟩
      have HD0 := Hid.mk hd0
      have p1 : W0.drew.cell? ⟨wr.heap.size, 0, none⟩ = some (.int .i64 kk) := q1
      have p2 : W0.drew.cell? ⟨wr.heap.size, 1, none⟩ = some (.int .i64 nn) := q2
      clear hd0
      have hlen1 : (textL (xs.take i)).length ≤ 44 * i := textL_len _ _ (fun y hy => hr y (List.mem_of_mem_take hy)) (by simp; omega)
      obtain ⟨s1, hs1⟩ : ∃ s1 : ByteArray, s1 = ⟨(Lib.itoa kk).toArray⟩ := ⟨_, rfl⟩
      obtain ⟨s2, hs2⟩ : ∃ s2 : ByteArray, s2 = ⟨(Lib.itoa nn).toArray⟩ := ⟨_, rfl⟩
      have z1 : s1.size ≤ 21 := by rw [hs1]; exact Lib.itoa_length_le kk hrx.1.1 hrx.1.2
      have z2 : s2.size ≤ 21 := by rw [hs2]; exact Lib.itoa_length_le nn hrx.2.1 hrx.2.2
      have c1 : s1.size + 1 ≤ 9223372036854775807 := by omega
      have c2 : s1.size + 1 + s2.size ≤ 9223372036854775807 := by omega
      have c3 : s1.size + 1 + s2.size + 1 ≤ 9223372036854775807 := by omega
      have it1 : ∀ W, Lib.TabIs Tryd.prog W "internal/strconv.uint64pow10" .u64 Lib.pow10Tab → Calls Tryd.prog 46 #[.int .i64 kk] W fun e w' => e = .returned (.string s1) ∧ ∃ k os, w' = grow (W.drewN k) os := fun W h => by rw [hs1]; exact Tryd.strconv_Itoa kk hrx.1.1 hrx.1.2 W h
      have it2 : ∀ W, Lib.TabIs Tryd.prog W "internal/strconv.uint64pow10" .u64 Lib.pow10Tab → Calls Tryd.prog 46 #[.int .i64 nn] W fun e w' => e = .returned (.string s2) ∧ ∃ k os, w' = grow (W.drewN k) os := fun W h => by rw [hs2]; exact Tryd.strconv_Itoa nn hrx.2.1 hrx.2.2 W h
      have HS := Hid.mk (And.intro hs1 hs2)
      have IT1 := Hid.mk it1
      have IT2 := Hid.mk it2
      have key : ∀ W2 W3 : World, Below W0.heap.size W0 W2 → Lib.BuilderAt 75 5 w.heap.size w.heap.size (.pointer (some ⟨w.heap.size, 0, none⟩)) (Lib.byteCells (textL (xs.take i)) ++ Lib.strCells (s1 ++ ⟨#[58]⟩ ++ s2 ++ ⟨#[59]⟩)) W3 → Below w.heap.size W2 W3 →
          Lib.IsBuilder 75 5 w.heap.size w.heap.size (Lib.byteCells (textL (xs.take (i + 1)))) W3 ∧ Below w.heap.size w W3 := fun W2 W3 h2 h3 h4 => by
        refine ⟨.inr ?_, (HB.out.trans ((HB0.out.trans (h2.mono (by omega))).mono hlw)).trans h4⟩
        have e : Lib.byteCells (textL (xs.take i)) ++ Lib.strCells (s1 ++ ⟨#[58]⟩ ++ s2 ++ ⟨#[59]⟩) = Lib.byteCells (textL (xs.take (i + 1))) := by
          have ht : xs.take (i + 1) = xs.take i ++ [(kk, nn)] := by rw [List.take_add_one, hx]; rfl
          rw [ht, textL_app, Lib.byteCells_append, Lib.strCells_eq, hs1, hs2]
          congr 2
          simp [textL, ByteArray.data_append]
        rw [← e]; exact h3
      have KEY := Hid.mk key
      have wsLen : Hid (∀ u : Unit, (Lib.byteCells (textL (xs.take i))).length + (s1 ++ ⟨#[58]⟩ ++ s2 ++ ⟨#[59]⟩ : ByteArray).size ≤ 140737488355328) := ⟨fun _ => by
        rw [Lib.byteCells_length]; simp only [ByteArray.size_append]
        have e1 : (⟨#[58]⟩ : ByteArray).size = 1 := rfl
        have e2 : (⟨#[59]⟩ : ByteArray).size = 1 := rfl
        omega⟩
      clear hs1 hs2 it1 it2 key
      go_region_with (first
        | (go_at_call 46; first
          | (refine (IT1.out _ ?_).mono ?_; exact tab0 _ HD0.out; rintro e W1 ⟨rfl, hgr⟩; have HD1 := Hid.mk (show Below W0.heap.size W0 W1 from by obtain ⟨n1, os1, rfl⟩ := hgr; exact HD0.out.trans ((below_grow' _ n1 os1).mono (Nat.le_refl _))); have qq2 := (HD1.out.cell (p := ⟨wr.heap.size, 1, none⟩) (by simp; omega)).trans q2; clear hgr)
          | (refine (IT2.out _ ?_).mono ?_; exact tab0 _ HD1.out; rintro e W2 ⟨rfl, hgr⟩; have HD2 := Hid.mk (show Below W0.heap.size W0 W2 from by obtain ⟨n1, os1, rfl⟩ := hgr; exact HD1.out.trans ((below_grow' _ n1 os1).mono HD1.out.size)); clear hgr))
        | (go_at_call 45; refine (Tryd.ws w.heap.size w.heap.size (Lib.byteCells (textL (xs.take i))) _ _ (bld_below hb (HB0.out.trans (HD2.out.mono (by omega)))) (wsLen.out ()) (le_ofB HD2.out (by omega))).mono ?_; rintro e W3 ⟨rfl, hb3, hB3⟩))
      all_goals (obtain ⟨g1, g2⟩ := KEY.out _ _ HD2.out hb3 hB3; have GB := Hid.mk (And.intro g1 g2); clear g1 g2 hb3 hB3; go_wp2; go_roundw)
      all_goals first | exact ⟨i + 1, by simp, by omega, GB.out.1, GB.out.2⟩ | (simp; omega)
    · have he : i = xs.length := by omega
      subst he
      rw [List.take_length] at hb
      have hd : decide ((xs.length : Int) < (xs.length : Int)) = false := by simp
      have HB := Hid.mk hB
      have HBB := Hid.mk hb
      go_wp2_with (go_at_call 47; refine (Tryd.Builder_String_any w.heap.size w.heap.size (textL xs) _ HBB.out HB.out.size).mono ?_)
      rintro e W3 ⟨rfl, hB3⟩
      have HB3 := Hid.mk hB3
      clear hB3
      go_wp2
      go_ret
      exact ⟨rfl, HB.out.trans HB3.out⟩
end Go.Proofs

namespace Go.Cf
open Go Go.Ab Go.Proofs
set_option maxRecDepth 100000
def ty : List TyI := [⟨.other, 1, 0, []⟩,
  ⟨.scalar, 1, 8, [.pv .nilfn]⟩,
  ⟨(.int .i64), 1, 8, [.pv (.int .i64 0)]⟩,
  ⟨(.int .i64), 1, 8, [.pv (.int .i64 0)]⟩,
  ⟨.bool, 1, 1, [.pv (.bool false)]⟩,
  ⟨(.int .u8), 1, 1, [.pv (.int .u8 0)]⟩,
  ⟨(.int .u8), 1, 1, [.pv (.int .u8 0)]⟩,
  ⟨(.struct [(2, 0), (3, 1), (4, 2), (6, 3)]), 4, 24, [.pv (.int .i64 0), .pv (.int .i64 0), .pv (.bool false), .pv (.int .u8 0)]⟩,
  ⟨(.struct [(2, 0), (3, 1), (4, 2), (6, 3)]), 4, 24, [.pv (.int .i64 0), .pv (.int .i64 0), .pv (.bool false), .pv (.int .u8 0)]⟩,
  ⟨.str, 1, 16, [.pv (.str ⟨#[]⟩)]⟩,
  ⟨.str, 1, 16, [.pv (.str ⟨#[]⟩)]⟩,
  ⟨.str, 1, 16, [.pv (.str ⟨#[]⟩)]⟩,
  ⟨(.int .u64), 1, 8, [.pv (.int .u64 0)]⟩,
  ⟨.other, 2, 24, []⟩,
  ⟨.other, 2, 24, []⟩,
  ⟨.scalar, 1, 8, [.pv (.con (.pointer none))]⟩,
  ⟨.scalar, 1, 8, [.pv (.con (.pointer none))]⟩,
  ⟨.scalar, 1, 8, [.pv (.con (.pointer none))]⟩,
  ⟨.other, 1, 8, []⟩,
  ⟨.other, 1, 8, []⟩,
  ⟨.scalar, 1, 16, [.pv (.con .nilIface)]⟩,
  ⟨(.int .i32), 1, 4, [.pv (.int .i32 0)]⟩,
  ⟨(.slice 3), 1, 24, [.nil 0]⟩,
  ⟨(.slice 30), 1, 24, [.nil 0]⟩,
  ⟨(.struct [(22, 0), (23, 1)]), 2, 48, [.nil 0, .nil 0]⟩,
  ⟨(.struct [(22, 0), (23, 1)]), 2, 48, [.nil 0, .nil 0]⟩,
  ⟨.scalar, 1, 8, [.pv .nilfn]⟩,
  ⟨.scalar, 1, 8, [.pv .nilfn]⟩,
  ⟨.scalar, 1, 8, [.pv .nilfn]⟩,
  ⟨.scalar, 1, 8, [.pv .nilfn]⟩,
  ⟨(.slice 39), 1, 24, [.nil 3]⟩,
  ⟨.scalar, 1, 8, [.pv .nilfn]⟩,
  ⟨.other, 1, 0, []⟩,
  ⟨.scalar, 1, 8, [.pv .nilfn]⟩,
  ⟨.scalar, 1, 8, [.pv .nilfn]⟩,
  ⟨.scalar, 1, 8, [.pv .nilfn]⟩,
  ⟨.scalar, 1, 8, [.pv .nilfn]⟩,
  ⟨.scalar, 1, 8, [.pv .nilfn]⟩,
  ⟨(.struct [(3, 0), (3, 1)]), 2, 16, [.pv (.int .i64 0), .pv (.int .i64 0)]⟩,
  ⟨(.struct [(3, 0), (3, 1)]), 2, 16, [.pv (.int .i64 0), .pv (.int .i64 0)]⟩,
  ⟨.scalar, 1, 8, [.pv .nilfn]⟩,
  ⟨.scalar, 1, 8, [.pv .nilfn]⟩,
  ⟨.scalar, 1, 8, [.pv .nilfn]⟩,
  ⟨.scalar, 1, 8, [.pv .nilfn]⟩,
  ⟨.scalar, 1, 8, [.pv .nilfn]⟩,
  ⟨.scalar, 1, 8, [.pv .nilfn]⟩,
  ⟨(.arr 2 3), 2, 16, [.pv (.int .i64 0), .pv (.int .i64 0)]⟩,
  ⟨(.arr 2 3), 2, 16, [.pv (.int .i64 0), .pv (.int .i64 0)]⟩,
  ⟨.scalar, 1, 8, [.pv .nilfn]⟩,
  ⟨.scalar, 1, 8, [.pv .nilfn]⟩,
  ⟨.scalar, 1, 8, [.pv .nilfn]⟩,
  ⟨.scalar, 1, 8, [.pv .nilfn]⟩,
  ⟨(.map 9 3), 1, 8, [.pv (.con (.map none))]⟩,
  ⟨.scalar, 1, 8, [.pv .nilfn]⟩,
  ⟨.scalar, 1, 8, [.pv .nilfn]⟩,
  ⟨.scalar, 1, 8, [.pv .nilfn]⟩,
  ⟨.scalar, 1, 8, [.pv .nilfn]⟩,
  ⟨.scalar, 1, 8, [.pv .nilfn]⟩,
  ⟨.scalar, 1, 8, [.pv .nilfn]⟩,
  ⟨.scalar, 1, 8, [.pv .nilfn]⟩,
  ⟨.scalar, 1, 8, [.pv .nilfn]⟩,
  ⟨(.map 47 23), 1, 8, [.pv (.con (.map none))]⟩,
  ⟨(.slice 47), 1, 24, [.nil 3]⟩,
  ⟨.scalar, 1, 8, [.pv .nilfn]⟩,
  ⟨.scalar, 1, 8, [.pv .nilfn]⟩,
  ⟨.scalar, 1, 8, [.pv .nilfn]⟩,
  ⟨(.arr 16 4), 16, 16, [.pv (.bool false), .pv (.bool false), .pv (.bool false), .pv (.bool false), .pv (.bool false), .pv (.bool false), .pv (.bool false), .pv (.bool false), .pv (.bool false), .pv (.bool false), .pv (.bool false), .pv (.bool false), .pv (.bool false), .pv (.bool false), .pv (.bool false), .pv (.bool false)]⟩,
  ⟨.scalar, 1, 8, [.pv .nilfn]⟩,
  ⟨.scalar, 1, 8, [.pv .nilfn]⟩,
  ⟨.scalar, 1, 8, [.pv .nilfn]⟩,
  ⟨.scalar, 1, 8, [.pv .nilfn]⟩,
  ⟨.scalar, 1, 8, [.pv .nilfn]⟩,
  ⟨.scalar, 1, 8, [.pv (.con (.pointer none))]⟩,
  ⟨(.slice 5), 1, 24, [.nil 0]⟩,
  ⟨(.struct [(72, 0), (73, 1)]), 2, 32, [.pv (.con (.pointer none)), .nil 0]⟩,
  ⟨(.struct [(72, 0), (73, 1)]), 2, 32, [.pv (.con (.pointer none)), .nil 0]⟩,
  ⟨.scalar, 1, 16, [.pv (.con .nilIface)]⟩,
  ⟨.scalar, 1, 16, [.pv (.con .nilIface)]⟩,
  ⟨.other, 1, 0, []⟩,
  ⟨.scalar, 1, 8, [.pv .nilfn]⟩,
  ⟨.scalar, 1, 8, [.pv .nilfn]⟩,
  ⟨.scalar, 1, 8, [.pv .nilfn]⟩,
  ⟨(.slice 22), 1, 24, [.nil 0]⟩,
  ⟨.scalar, 1, 8, [.pv .nilfn]⟩,
  ⟨.scalar, 1, 8, [.pv .nilfn]⟩,
  ⟨.scalar, 1, 8, [.pv .nilfn]⟩,
  ⟨.scalar, 1, 8, [.pv .nilfn]⟩,
  ⟨.scalar, 1, 8, [.pv .nilfn]⟩,
  ⟨(.int .u64), 1, 8, [.pv (.int .u64 0)]⟩,
  ⟨.scalar, 1, 8, [.pv .nilfn]⟩,
  ⟨.scalar, 1, 8, [.pv .nilfn]⟩,
  ⟨(.int .u64), 1, 8, [.pv (.int .u64 0)]⟩,
  ⟨.other, 1, 0, []⟩,
  ⟨.scalar, 1, 8, [.pv .nilfn]⟩,
  ⟨.scalar, 1, 8, [.pv .nilfn]⟩,
  ⟨.scalar, 1, 8, [.pv .nilfn]⟩,
  ⟨.scalar, 1, 8, [.pv .nilfn]⟩,
  ⟨.scalar, 1, 8, [.pv .nilfn]⟩,
  ⟨.scalar, 1, 8, [.pv (.con (.pointer none))]⟩,
  ⟨.scalar, 1, 8, [.pv .nilfn]⟩,
  ⟨(.int .i64), 1, 8, [.pv (.int .i64 0)]⟩,
  ⟨.other, 1, 0, []⟩,
  ⟨.scalar, 1, 8, [.pv .nilfn]⟩,
  ⟨.scalar, 1, 8, [.pv .nilfn]⟩,
  ⟨.scalar, 1, 8, [.pv .nilfn]⟩,
  ⟨.other, 1, 0, []⟩,
  ⟨.scalar, 1, 8, [.pv .nilfn]⟩,
  ⟨.scalar, 1, 8, [.pv .nilfn]⟩,
  ⟨(.int .u32), 1, 4, [.pv (.int .u32 0)]⟩,
  ⟨.scalar, 1, 8, [.pv .nilfn]⟩,
  ⟨.scalar, 1, 8, [.pv .nilfn]⟩,
  ⟨.other, 1, 8, []⟩,
  ⟨.scalar, 1, 8, [.pv .nilfn]⟩,
  ⟨.scalar, 1, 8, [.pv .nilfn]⟩,
  ⟨(.int .u64), 1, 8, [.pv (.int .u64 0)]⟩,
  ⟨.scalar, 1, 8, [.pv .nilfn]⟩,
  ⟨.scalar, 1, 8, [.pv .nilfn]⟩,
  ⟨.scalar, 1, 8, [.pv .nilfn]⟩,
  ⟨.scalar, 1, 8, [.pv (.con (.pointer none))]⟩,
  ⟨.scalar, 1, 8, [.pv .nilfn]⟩,
  ⟨(.arr 24 5), 24, 24, [.pv (.int .u8 0), .pv (.int .u8 0), .pv (.int .u8 0), .pv (.int .u8 0), .pv (.int .u8 0), .pv (.int .u8 0), .pv (.int .u8 0), .pv (.int .u8 0), .pv (.int .u8 0), .pv (.int .u8 0), .pv (.int .u8 0), .pv (.int .u8 0), .pv (.int .u8 0), .pv (.int .u8 0), .pv (.int .u8 0), .pv (.int .u8 0), .pv (.int .u8 0), .pv (.int .u8 0), .pv (.int .u8 0), .pv (.int .u8 0), .pv (.int .u8 0), .pv (.int .u8 0), .pv (.int .u8 0), .pv (.int .u8 0)]⟩,
  ⟨.scalar, 1, 8, [.pv .nilfn]⟩,
  ⟨.other, 1, 0, []⟩,
  ⟨.scalar, 1, 8, [.pv .nilfn]⟩,
  ⟨.scalar, 1, 8, [.pv (.con (.pointer none))]⟩,
  ⟨.other, 1, 0, []⟩,
  ⟨.scalar, 1, 8, [.pv .nilfn]⟩,
  ⟨.scalar, 1, 8, [.pv .nilfn]⟩,
  ⟨.scalar, 1, 8, [.pv .nilfn]⟩,
  ⟨(.arr 20 91), 20, 160, [.pv (.int .u64 0), .pv (.int .u64 0), .pv (.int .u64 0), .pv (.int .u64 0), .pv (.int .u64 0), .pv (.int .u64 0), .pv (.int .u64 0), .pv (.int .u64 0), .pv (.int .u64 0), .pv (.int .u64 0), .pv (.int .u64 0), .pv (.int .u64 0), .pv (.int .u64 0), .pv (.int .u64 0), .pv (.int .u64 0), .pv (.int .u64 0), .pv (.int .u64 0), .pv (.int .u64 0), .pv (.int .u64 0), .pv (.int .u64 0)]⟩,
  ⟨.other, 65, 65, []⟩,
  ⟨(.arr 32 5), 32, 32, [.pv (.int .u8 0), .pv (.int .u8 0), .pv (.int .u8 0), .pv (.int .u8 0), .pv (.int .u8 0), .pv (.int .u8 0), .pv (.int .u8 0), .pv (.int .u8 0), .pv (.int .u8 0), .pv (.int .u8 0), .pv (.int .u8 0), .pv (.int .u8 0), .pv (.int .u8 0), .pv (.int .u8 0), .pv (.int .u8 0), .pv (.int .u8 0), .pv (.int .u8 0), .pv (.int .u8 0), .pv (.int .u8 0), .pv (.int .u8 0), .pv (.int .u8 0), .pv (.int .u8 0), .pv (.int .u8 0), .pv (.int .u8 0), .pv (.int .u8 0), .pv (.int .u8 0), .pv (.int .u8 0), .pv (.int .u8 0), .pv (.int .u8 0), .pv (.int .u8 0), .pv (.int .u8 0), .pv (.int .u8 0)]⟩,
  ⟨(.arr 64 5), 64, 64, [.pv (.int .u8 0), .pv (.int .u8 0), .pv (.int .u8 0), .pv (.int .u8 0), .pv (.int .u8 0), .pv (.int .u8 0), .pv (.int .u8 0), .pv (.int .u8 0), .pv (.int .u8 0), .pv (.int .u8 0), .pv (.int .u8 0), .pv (.int .u8 0), .pv (.int .u8 0), .pv (.int .u8 0), .pv (.int .u8 0), .pv (.int .u8 0), .pv (.int .u8 0), .pv (.int .u8 0), .pv (.int .u8 0), .pv (.int .u8 0), .pv (.int .u8 0), .pv (.int .u8 0), .pv (.int .u8 0), .pv (.int .u8 0), .pv (.int .u8 0), .pv (.int .u8 0), .pv (.int .u8 0), .pv (.int .u8 0), .pv (.int .u8 0), .pv (.int .u8 0), .pv (.int .u8 0), .pv (.int .u8 0), .pv (.int .u8 0), .pv (.int .u8 0), .pv (.int .u8 0), .pv (.int .u8 0), .pv (.int .u8 0), .pv (.int .u8 0), .pv (.int .u8 0), .pv (.int .u8 0), .pv (.int .u8 0), .pv (.int .u8 0), .pv (.int .u8 0), .pv (.int .u8 0), .pv (.int .u8 0), .pv (.int .u8 0), .pv (.int .u8 0), .pv (.int .u8 0), .pv (.int .u8 0), .pv (.int .u8 0), .pv (.int .u8 0), .pv (.int .u8 0), .pv (.int .u8 0), .pv (.int .u8 0), .pv (.int .u8 0), .pv (.int .u8 0), .pv (.int .u8 0), .pv (.int .u8 0), .pv (.int .u8 0), .pv (.int .u8 0), .pv (.int .u8 0), .pv (.int .u8 0), .pv (.int .u8 0), .pv (.int .u8 0)]⟩,
  ⟨.other, 4, 40, []⟩,
  ⟨.other, 4, 40, []⟩,
  ⟨.other, 0, 0, []⟩,
  ⟨.other, 0, 0, []⟩,
  ⟨.other, 0, 0, []⟩,
  ⟨.scalar, 1, 8, [.pv .nilfn]⟩,
  ⟨(.int .u8), 1, 1, [.pv (.int .u8 0)]⟩,
  ⟨(.int .u8), 1, 1, [.pv (.int .u8 0)]⟩,
  ⟨.scalar, 1, 8, [.pv .nilfn]⟩,
  ⟨(.int .i32), 1, 4, [.pv (.int .i32 0)]⟩,
  ⟨(.int .i32), 1, 4, [.pv (.int .i32 0)]⟩,
  ⟨.other, 11, 48, []⟩,
  ⟨.other, 11, 48, []⟩]
def h3 : Hint := ⟨2, ⟨[], [], [], [], [], []⟩, [], [], [], [(5, [1, 2]), (8, [1, 2, 7])]⟩
noncomputable def fi3 : FnI := mkFn Tryd.f3 h3
def h4 : Hint := ⟨3, ⟨[37, 45], [], [], [], [], [10, 11]⟩, [], [], [], [(6, [2, 3, 4])]⟩
noncomputable def fi4 : FnI := mkFn Tryd.f4 h4
def h5 : Hint := ⟨3, ⟨[], [], [], [], [], []⟩, [], [], [], [(7, [3, 4, 5]), (10, [3, 4, 5, 11, 12, 13, 14, 63]), (14, [3, 4, 5, 11])]⟩
noncomputable def fi5 : FnI := mkFn Tryd.f5 h5
def h6 : Hint := ⟨0, ⟨[], [], [], [], [], []⟩, [], [], [], []⟩
noncomputable def fi6 : FnI := mkFn Tryd.f6 h6
def h7 : Hint := ⟨2, ⟨[], [], [], [], [], []⟩, [(4, [2, 5])], [(4, [4])], [], [(3, [2])]⟩
noncomputable def fi7 : FnI := mkFn Tryd.f7 h7
def h8 : Hint := ⟨2, ⟨[5], [8, 15, 16], [8], [(8, [(.agg [.pv (.slice 0 []), .view 0 0 none], [.row false 0 0 []])])], [16], []⟩, [], [], [(3, []), (4, [])], []⟩
noncomputable def fi8 : FnI := mkFn Tryd.f8 h8
def h9 : Hint := ⟨2, ⟨[], [12, 13], [], [], [], []⟩, [], [], [], []⟩
noncomputable def fi9 : FnI := mkFn Tryd.f9 h9
def h10 : Hint := ⟨2, ⟨[], [], [], [], [], []⟩, [(5, [2, 3, 5, 27, 28]), (11, [51])], [(5, [5]), (11, [4])], [], [(3, [2, 3])]⟩
noncomputable def fi10 : FnI := mkFnS Tryd.f10 h10 3 5
def h11 : Hint := ⟨2, ⟨[], [], [], [], [], []⟩, [(5, [2, 3, 6])], [(5, [4])], [], [(4, [2, 3])]⟩
noncomputable def fi11 : FnI := mkFn Tryd.f11 h11
def h12 : Hint := ⟨2, ⟨[6, 65], [], [], [], [], []⟩, [(5, [3, 4, 6, 45, 46, 47]), (8, [3, 4, 6, 8, 45, 46, 47, 52, 53, 54])], [(5, [4, 6]), (8, [3, 4, 6, 45, 46, 47])], [(2, [12]), (13, [12])], [(4, [2, 3, 4, 6])]⟩
noncomputable def fi12 : FnI := mkFn Tryd.f12 h12
def h13 : Hint := ⟨2, ⟨[6, 10, 13, 42, 66, 72], [], [], [], [], []⟩, [(5, [1, 2, 4, 6, 26, 27, 28]), (14, [4, 6, 10, 48, 49, 50]), (18, [4, 6, 10, 12, 13, 48, 49, 50, 54, 55, 56])], [(5, [1, 2, 4, 5, 6]), (14, [4, 10]), (18, [4, 6, 10, 13, 48, 49, 50])], [(22, [26]), (24, [20])], [(3, [1, 2, 4])]⟩
noncomputable def fi13 : FnI := mkFn Tryd.f13 h13
def h14 : Hint := ⟨3, ⟨[11, 15, 19, 23, 49, 68, 71, 75, 81, 93, 112, 137, 143, 149], [79], [], [], [79], []⟩, [(8, [1, 2, 3, 6, 8, 10, 11, 51, 52, 53]), (18, [2, 3, 6, 10, 11, 15, 84, 85]), (23, [2, 3, 6, 10, 15, 96, 97, 98]), (27, [2, 3, 6, 10, 15, 18, 19, 96, 97, 98, 113, 114, 115]), (32, [2, 3, 6, 10, 15, 18, 19, 22, 23, 96, 97, 98, 113, 114, 115, 125, 126, 127])], [(8, [1, 2, 3, 6, 10, 11]), (18, [2, 3, 6, 10, 11, 15]), (23, [6, 15]), (27, [2, 3, 6, 10, 15, 19, 96, 97, 98]), (32, [2, 3, 6, 10, 15, 18, 19, 23, 96, 97, 98, 113, 114, 115])], [(15, []), (36, [46]), (38, [38]), (40, [30])], [(5, [1, 2, 3, 6, 8]), (13, [1, 2, 3, 6, 8, 10, 11, 13, 14, 51, 52, 53])]⟩
noncomputable def fi14 : FnI := mkFn Tryd.f14 h14
def h15 : Hint := ⟨0, ⟨[], [], [], [], [], []⟩, [], [], [], []⟩
noncomputable def fi15 : FnI := mkFn Tryd.f15 h15
def h16 : Hint := ⟨1, ⟨[3], [], [], [], [], []⟩, [(3, [1, 3, 10, 11, 12]), (11, [1, 6, 31, 32, 33])], [(3, [1, 2]), (11, [1, 2])], [], []⟩
noncomputable def fi16 : FnI := mkFn Tryd.f16 h16
def h17 : Hint := ⟨2, ⟨[5, 27], [], [], [], [], []⟩, [(3, [1, 4, 5, 13, 14, 15])], [(3, [4, 5])], [(8, [])], []⟩
noncomputable def fi17 : FnI := mkFn Tryd.f17 h17
def h18 : Hint := ⟨1, ⟨[], [], [], [], [], []⟩, [], [], [], []⟩
noncomputable def fi18 : FnI := mkFn Tryd.f18 h18
def h19 : Hint := ⟨2, ⟨[], [], [], [], [], []⟩, [(2, [0, 1, 7, 8])], [(2, [4])], [], []⟩ -- slices.Index[[]int,int]
noncomputable def fi19 : FnI := mkFn Tryd.f19 h19
def h20 : Hint := ⟨2, ⟨[], [8], [], [], [], []⟩, [], [], [], []⟩ -- slices.SortStableFunc[[][]roadbook/api.Val,[]roadbook/api.Val]
noncomputable def fi20 : FnI := mkFn Tryd.f20 h20
def h21 : Hint := ⟨3, ⟨[], [], [], [], [], []⟩, [], [], [], []⟩
noncomputable def fi21 : FnI := mkFn Tryd.f21 h21
def h22 : Hint := ⟨2, ⟨[], [], [], [], [], []⟩, [], [], [], []⟩
noncomputable def fi22 : FnI := mkFn Tryd.f22 h22
def h23 : Hint := ⟨2, ⟨[], [], [], [], [], []⟩, [], [], [], [(3, [0, 1, 4]), (6, [4, 5])]⟩
noncomputable def fi23 : FnI := mkFn Tryd.f23 h23
def h24 : Hint := ⟨2, ⟨[], [23], [], [], [], []⟩, [(2, [0, 1, 5])], [(2, [4])], [], []⟩ -- slices.IsSortedFunc[[][]roadbook/api.Val,[]roadbook/api.Val]
noncomputable def fi24 : FnI := mkFn Tryd.f24 h24
def h25 : Hint := ⟨3, ⟨[], [], [], [], [], []⟩, [], [], [], []⟩
noncomputable def fi25 : FnI := mkFn Tryd.f25 h25
def h26 : Hint := ⟨2, ⟨[], [], [], [], [], []⟩, [(4, [0, 1, 12, 13])], [(4, [4])], [], []⟩ -- slices.Equal[[]int,int]
noncomputable def fi26 : FnI := mkFn Tryd.f26 h26
def h27 : Hint := ⟨1, ⟨[], [21, 23], [], [], [], []⟩, [(3, [3, 6, 7, 8])], [(3, [3])], [], []⟩
noncomputable def fi27 : FnI := mkFn Tryd.f27 h27
def h28 : Hint := ⟨2, ⟨[], [], [], [], [], []⟩, [(4, [0, 1, 5])], [(4, [4])], [], []⟩
noncomputable def fi28 : FnI := mkFn Tryd.f28 h28
def h29 : Hint := ⟨2, ⟨[], [], [], [], [], []⟩, [(4, [0, 1, 5])], [(4, [4])], [], []⟩
noncomputable def fi29 : FnI := mkFn Tryd.f29 h29
def h30 : Hint := ⟨1, ⟨[6, 24, 33], [24], [24], [(24, [(.view 0 0 none, [.row false 0 0 []])])], [], []⟩, [(3, [0, 3, 9, 10, 11]), (11, [6, 25, 26, 27])], [(3, [0, 3]), (11, [6])], [], []⟩ -- slices.Concat[[]int,int]
noncomputable def fi30 : FnI := mkFn Tryd.f30 h30
def h31 : Hint := ⟨1, ⟨[6, 24, 33], [24], [24], [(24, [(.view 0 0 none, [.row false 0 3 []])])], [], []⟩, [(3, [0, 3, 9, 10, 11]), (11, [6, 25, 26, 27])], [(3, [0, 3]), (11, [6])], [], []⟩ -- slices.Concat[[]roadbook/api.Val,roadbook/api.Val]
noncomputable def fi31 : FnI := mkFn Tryd.f31 h31
def h32 : Hint := ⟨1, ⟨[5], [], [], [], [], []⟩, [], [], [], []⟩ -- slices.Clone[[]int,int]
noncomputable def fi32 : FnI := mkFn Tryd.f32 h32
def h33 : Hint := ⟨2, ⟨[], [], [], [], [], []⟩, [], [], [], []⟩
noncomputable def fi33 : FnI := mkFn Tryd.f33 h33
def h34 : Hint := ⟨2, ⟨[], [], [], [], [], []⟩, [], [], [], []⟩ -- slices.Contains[[]int,int]
noncomputable def fi34 : FnI := mkFn Tryd.f34 h34
def h35 : Hint := ⟨2, ⟨[], [], [], [], [], []⟩, [], [], [], []⟩ -- slices.ContainsFunc[[]int,int]
noncomputable def fi35 : FnI := mkFn Tryd.f35 h35
def h36 : Hint := ⟨2, ⟨[], [13], [], [], [], []⟩, [], [], [], []⟩ -- slices.SortFunc[[]roadbook/bag.key,roadbook/bag.key]
noncomputable def fi36 : FnI := mkFn Tryd.f36 h36
def h37 : Hint := ⟨1, ⟨[], [], [], [], [], []⟩, [], [], [], []⟩
noncomputable def fi37 : FnI := mkFn Tryd.f37 h37
def h38 : Hint := ⟨1, ⟨[], [], [], [], [], []⟩, [(6, [2, 3, 4, 5, 14, 15, 16])], [(6, [2, 3, 4, 5])], [], []⟩
noncomputable def fi38 : FnI := mkFn Tryd.f38 h38
def h39 : Hint := ⟨1, ⟨[], [], [], [], [], []⟩, [], [], [], []⟩
noncomputable def fi39 : FnI := mkFn Tryd.f39 h39
def h40 : Hint := ⟨1, ⟨[], [], [], [], [], []⟩, [], [], [], []⟩
noncomputable def fi40 : FnI := mkFn Tryd.f40 h40
def h41 : Hint := ⟨2, ⟨[], [], [], [], [], []⟩, [], [], [], []⟩ -- slices.ContainsFunc[[]roadbook/api.Val,roadbook/api.Val]
noncomputable def fi41 : FnI := mkFn Tryd.f41 h41
def h42 : Hint := ⟨1, ⟨[5], [], [], [], [], []⟩, [], [], [], []⟩ -- slices.Clone[[]roadbook/api.Val,roadbook/api.Val]
noncomputable def fi42 : FnI := mkFn Tryd.f42 h42
def h43 : Hint := ⟨3, ⟨[], [18, 27, 43, 60], [], [], [], []⟩, [(2, [0, 1, 2, 6, 7, 8]), (7, [0, 1, 2, 6]), (9, [0, 1, 2, 6, 7, 8])], [(2, [0, 1, 2, 6, 7]), (7, []), (9, [0, 1, 2, 6, 7])], [], []⟩
noncomputable def fi43 : FnI := mkFn Tryd.f43 h43
def h44 : Hint := ⟨2, ⟨[], [], [], [], [], []⟩, [(2, [0, 1, 9, 10, 11])], [(2, [0, 1, 4])], [], []⟩ -- slices.Compare[[]int,int]
noncomputable def fi44 : FnI := mkFn Tryd.f44 h44
def h48 : Hint := ⟨2, ⟨[0, 4, 22], [], [], [], [], []⟩, [], [], [], [(3, [0, 1])]⟩ -- slices.Grow[[]int,int]
noncomputable def fi48 : FnI := mkFn Tryd.f48 h48
def h49 : Hint := ⟨2, ⟨[0, 4, 22], [], [], [], [], []⟩, [], [], [], [(3, [0, 1])]⟩ -- slices.Grow[[]roadbook/api.Val,roadbook/api.Val]
noncomputable def fi49 : FnI := mkFn Tryd.f49 h49
def h50 : Hint := ⟨2, ⟨[], [], [], [], [], []⟩, [(2, [0, 1, 7, 8])], [(2, [4])], [], []⟩ -- slices.IndexFunc[[]int,int]
noncomputable def fi50 : FnI := mkFn Tryd.f50 h50
def h51 : Hint := ⟨5, ⟨[], [30, 37, 44, 52, 61, 80, 103, 111, 134, 146], [], [], [], []⟩, [(2, [0, 1, 2, 3, 4, 10, 11])], [(2, [])], [], [(10, [0, 1, 2, 3, 4, 10, 11, 12]), (15, [0, 1, 2, 3, 4, 10, 11, 12, 13, 14]), (16, [0, 1, 2, 3, 4, 10, 11, 12, 13, 75]), (17, [0, 1, 2, 3, 4, 10, 11, 12, 13]), (18, [0, 1, 2, 3, 4, 10, 11, 12, 13, 97])]⟩
noncomputable def fi51 : FnI := mkFn Tryd.f51 h51
def h52 : Hint := ⟨1, ⟨[], [], [], [], [], []⟩, [], [], [], []⟩
noncomputable def fi52 : FnI := mkFn Tryd.f52 h52
def h53 : Hint := ⟨2, ⟨[], [], [], [], [], []⟩, [], [], [], []⟩
noncomputable def fi53 : FnI := mkFn Tryd.f53 h53
def h54 : Hint := ⟨1, ⟨[], [], [], [], [], []⟩, [], [], [], []⟩
noncomputable def fi54 : FnI := mkFn Tryd.f54 h54
def h55 : Hint := ⟨0, ⟨[], [], [], [], [], []⟩, [], [], [], []⟩
noncomputable def fi55 : FnI := mkFn Tryd.f55 h55
def h57 : Hint := ⟨0, ⟨[], [], [], [], [], []⟩, [], [], [], []⟩
noncomputable def fi57 : FnI := mkFn Tryd.f57 h57
def h58 : Hint := ⟨2, ⟨[], [], [], [], [], []⟩, [(2, [0, 1, 7, 8])], [(2, [4])], [], []⟩ -- slices.IndexFunc[[]roadbook/api.Val,roadbook/api.Val]
noncomputable def fi58 : FnI := mkFn Tryd.f58 h58
def h59 : Hint := ⟨4, ⟨[0], [32], [], [], [], []⟩, [(1, [0, 1, 2, 3, 8]), (4, [0, 1, 2, 3, 8, 9])], [(1, []), (4, [0, 1, 2, 3, 8])], [], [(6, [0, 1, 2, 3, 8, 9])]⟩
noncomputable def fi59 : FnI := mkFn Tryd.f59 h59
def h60 : Hint := ⟨5, ⟨[0], [49, 101, 169, 191, 205, 219], [], [], [], []⟩, [(3, [0, 1, 4, 10, 11]), (9, [0, 10, 13]), (15, [0, 2, 4, 14, 15]), (21, [0, 14, 17]), (33, [0, 1, 2, 3, 4, 18, 19, 20, 21, 22])], [(3, [0, 1, 10]), (9, []), (15, [0, 2, 14]), (21, []), (33, [0, 1, 2, 3, 4, 18, 19, 20])], [(40, [0]), (42, [0]), (44, [0])], [(32, [0, 1, 2, 3, 4, 18, 19, 20, 21]), (40, [0, 1, 2, 3, 4, 18, 20, 24, 185]), (41, [0, 1, 3, 4, 18, 20, 24]), (42, [0, 1, 3, 4, 18, 20, 24, 199]), (43, [0, 3, 4, 18, 24]), (44, [0, 3, 4, 18, 24, 213])]⟩
noncomputable def fi60 : FnI := mkFn Tryd.f60 h60
def h61 : Hint := ⟨2, ⟨[], [], [], [], [], []⟩, [], [], [], []⟩
noncomputable def fi61 : FnI := mkFn Tryd.f61 h61
def h64 : Hint := ⟨4, ⟨[0], [], [], [], [], []⟩, [(1, [0, 1, 2, 3, 8]), (4, [0, 1, 2, 3, 8, 9])], [(1, []), (4, [0, 1, 2, 3, 8])], [], [(6, [0, 1, 2, 3, 8, 9])]⟩
noncomputable def fi64 : FnI := mkFn Tryd.f64 h64
def h65 : Hint := ⟨4, ⟨[0], [29, 59], [], [], [], []⟩, [(4, [0, 3, 8, 9, 10, 11]), (8, [0, 3, 8, 9, 12])], [(4, [0, 3, 8, 9, 10]), (8, [])], [(6, [0]), (11, [0])], []⟩
noncomputable def fi65 : FnI := mkFn Tryd.f65 h65
def h66 : Hint := ⟨4, ⟨[0], [38], [], [], [], []⟩, [(5, [0, 1, 8, 9, 10, 11])], [(5, [])], [], [(10, [0, 1, 8, 9, 10, 11, 12])]⟩
noncomputable def fi66 : FnI := mkFn Tryd.f66 h66
def h67 : Hint := ⟨4, ⟨[], [40, 44, 48, 54], [], [], [], []⟩, [], [], [], [(11, [0, 3, 11, 12, 13, 14]), (12, [11, 13])]⟩
noncomputable def fi67 : FnI := mkFn Tryd.f67 h67
def h68 : Hint := ⟨4, ⟨[0], [], [], [], [], []⟩, [(2, [0, 8, 9])], [(2, [])], [], []⟩
noncomputable def fi68 : FnI := mkFn Tryd.f68 h68
def h69 : Hint := ⟨4, ⟨[0], [], [], [], [], []⟩, [(3, [0, 1, 2, 3, 9, 10]), (5, [0, 1, 2, 3, 9, 10]), (14, [0, 1, 2, 3, 9, 10, 11]), (20, [0, 1, 2, 3, 9, 10, 12])], [(3, [8]), (5, [0, 1, 2, 3, 9, 10]), (14, [0, 1, 2, 3, 9, 10]), (20, [0, 1, 2, 3, 9, 10])], [], [(7, [0, 1, 2, 3, 9, 10]), (18, [0, 1, 2, 3, 9, 10])]⟩
noncomputable def fi69 : FnI := mkFn Tryd.f69 h69
def h70 : Hint := ⟨5, ⟨[0], [], [], [], [], []⟩, [(3, [0, 1, 4, 11, 12]), (5, [0, 1, 4, 11, 12])], [(3, [0, 1, 4, 11, 12]), (5, [0, 1, 4, 11, 12])], [], [(5, [0, 1, 4, 11, 12]), (7, [0, 1, 4, 11, 12])]⟩
noncomputable def fi70 : FnI := mkFn Tryd.f70 h70
def h71 : Hint := ⟨5, ⟨[0], [], [], [], [], []⟩, [(3, [0, 1, 4, 12, 13]), (5, [0, 1, 4, 12, 13]), (13, [0, 1, 4, 12, 13]), (15, [0, 1, 4, 12, 13])], [(3, [0, 1, 4, 12, 13]), (5, [0, 1, 4, 12, 13]), (13, [0, 1, 4, 12, 13]), (15, [0, 1, 4, 12, 13])], [], [(5, [0, 1, 4, 12, 13]), (7, [0, 1, 4, 12, 13]), (15, [0, 1, 4, 12, 13]), (17, [0, 1, 4, 12, 13])]⟩
noncomputable def fi71 : FnI := mkFn Tryd.f71 h71
def h72 : Hint := ⟨1, ⟨[], [], [], [], [], []⟩, [], [], [], [(4, [0, 2]), (7, [0, 2])]⟩
noncomputable def fi72 : FnI := mkFn Tryd.f72 h72
def h73 : Hint := ⟨1, ⟨[], [], [], [], [], []⟩, [], [], [], [(4, [0, 2]), (7, [0, 2]), (10, [0, 2])]⟩
noncomputable def fi73 : FnI := mkFn Tryd.f73 h73
def h74 : Hint := ⟨2, ⟨[], [], [], [], [], []⟩, [], [], [], []⟩
noncomputable def fi74 : FnI := mkFn Tryd.f74 h74
def h75 : Hint := ⟨1, ⟨[], [], [], [], [], []⟩, [], [], [], []⟩
noncomputable def fi75 : FnI := mkFn Tryd.f75 h75
def h76 : Hint := ⟨5, ⟨[], [31, 46, 57], [], [], [], []⟩, [(2, [0, 2, 4, 10, 11])], [(2, [0, 2, 4, 10])], [], []⟩
noncomputable def fi76 : FnI := mkFn Tryd.f76 h76
def h77 : Hint := ⟨1, ⟨[], [], [], [], [], []⟩, [], [], [], []⟩
noncomputable def fi77 : FnI := mkFn Tryd.f77 h77
def h80 : Hint := ⟨5, ⟨[0], [], [], [], [], []⟩, [(1, [0, 2, 3, 4, 10])], [(1, [])], [], [(5, [0, 2, 3, 4, 10, 11])]⟩
noncomputable def fi80 : FnI := mkFn Tryd.f80 h80
def h81 : Hint := ⟨1, ⟨[], [], [], [], [], []⟩, [], [], [], []⟩
noncomputable def fi81 : FnI := mkFn Tryd.f81 h81
def h82 : Hint := ⟨1, ⟨[], [], [], [], [], []⟩, [], [], [], []⟩
noncomputable def fi82 : FnI := mkFn Tryd.f82 h82
def h83 : Hint := ⟨4, ⟨[], [17], [], [], [], []⟩, [], [], [], []⟩
noncomputable def fi83 : FnI := mkFn Tryd.f83 h83
def h84 : Hint := ⟨6, ⟨[], [19, 28, 37], [], [], [], []⟩, [], [], [], []⟩
noncomputable def fi84 : FnI := mkFn Tryd.f84 h84
def h85 : Hint := ⟨5, ⟨[0], [], [], [], [], []⟩, [(1, [0, 1, 2, 3, 10])], [(1, [])], [], []⟩
noncomputable def fi85 : FnI := mkFn Tryd.f85 h85
def h90 : Hint := ⟨5, ⟨[], [], [], [], [], []⟩, [], [], [], []⟩
noncomputable def fi90 : FnI := mkFn Tryd.f90 h90
noncomputable def tab : List (Nat × FnI) := [(3, fi3), (4, fi4), (5, fi5), (6, fi6), (7, fi7), (8, fi8), (9, fi9), (10, fi10), (11, fi11), (12, fi12), (13, fi13), (14, fi14), (15, fi15), (16, fi16), (17, fi17), (18, fi18), (19, fi19), (20, fi20), (21, fi21), (22, fi22), (23, fi23), (24, fi24), (25, fi25), (26, fi26), (27, fi27), (28, fi28), (29, fi29), (30, fi30), (31, fi31), (32, fi32), (33, fi33), (34, fi34), (35, fi35), (36, fi36), (37, fi37), (38, fi38), (39, fi39), (40, fi40), (41, fi41), (42, fi42), (43, fi43), (44, fi44), (48, fi48), (49, fi49), (50, fi50), (51, fi51), (52, fi52), (53, fi53), (54, fi54), (55, fi55), (57, fi57), (58, fi58), (59, fi59), (60, fi60), (61, fi61), (64, fi64), (65, fi65), (66, fi66), (67, fi67), (68, fi68), (69, fi69), (70, fi70), (71, fi71), (72, fi72), (73, fi73), (74, fi74), (75, fi75), (76, fi76), (77, fi77), (80, fi80), (81, fi81), (82, fi82), (83, fi83), (84, fi84), (85, fi85), (90, fi90)]
noncomputable def etab : List (Nat × ExtF) := [(32, cloneExt 0), (42, cloneExt 3), (27, textExt), (73, len64Ext), (56, add64Ext)]
noncomputable def cfg : Cfg := ⟨ty, lookF tab, lookE etab⟩
instance gl0 : Gl := Gl.triv
theorem clone32 : CloneB cfg fi32 0 := fun call xs => ⟨by kernel_rfl, by kernel_rfl⟩
theorem clone42 : CloneB cfg fi42 3 := fun call xs => ⟨by kernel_rfl, by kernel_rfl⟩
theorem tys : tysB Tryd.prog cfg = true := by kernel_rfl
theorem fns : AllF Tryd.prog cfg tab := ⟨fnB_ok Tryd.func3 (by kernel_rfl), fnB_ok Tryd.func4 (by kernel_rfl), fnB_ok Tryd.func5 (by kernel_rfl), fnB_ok Tryd.func6 (by kernel_rfl), fnB_ok Tryd.func7 (by kernel_rfl), fnB_ok Tryd.func8 (by kernel_rfl), fnB_ok Tryd.func9 (by kernel_rfl), fnSB_ok (r := 4) Tryd.func10 rfl (by kernel_rfl), fnB_ok Tryd.func11 (by kernel_rfl), fnB_ok Tryd.func12 (by kernel_rfl), fnB_ok Tryd.func13 (by kernel_rfl), fnB_ok Tryd.func14 (by kernel_rfl), fnB_ok Tryd.func15 (by kernel_rfl), fnB_ok Tryd.func16 (by kernel_rfl), fnB_ok Tryd.func17 (by kernel_rfl), fnB_ok Tryd.func18 (by kernel_rfl), fnB_ok Tryd.func19 (by kernel_rfl), fnB_ok Tryd.func20 (by kernel_rfl), fnB_ok Tryd.func21 (by kernel_rfl), fnB_ok Tryd.func22 (by kernel_rfl), fnB_ok Tryd.func23 (by kernel_rfl), fnB_ok Tryd.func24 (by kernel_rfl), fnB_ok Tryd.func25 (by kernel_rfl), fnB_ok Tryd.func26 (by kernel_rfl), fnB_ok Tryd.func27 (by kernel_rfl), fnB_ok Tryd.func28 (by kernel_rfl), fnB_ok Tryd.func29 (by kernel_rfl), fnB_ok Tryd.func30 (by kernel_rfl), fnB_ok Tryd.func31 (by kernel_rfl), fnB_ok Tryd.func32 (by kernel_rfl), fnB_ok Tryd.func33 (by kernel_rfl), fnB_ok Tryd.func34 (by kernel_rfl), fnB_ok Tryd.func35 (by kernel_rfl), fnB_ok Tryd.func36 (by kernel_rfl), fnB_ok Tryd.func37 (by kernel_rfl), fnB_ok Tryd.func38 (by kernel_rfl), fnB_ok Tryd.func39 (by kernel_rfl), fnB_ok Tryd.func40 (by kernel_rfl), fnB_ok Tryd.func41 (by kernel_rfl), fnB_ok Tryd.func42 (by kernel_rfl), fnB_ok Tryd.func43 (by kernel_rfl), fnB_ok Tryd.func44 (by kernel_rfl), fnB_ok Tryd.func48 (by kernel_rfl), fnB_ok Tryd.func49 (by kernel_rfl), fnB_ok Tryd.func50 (by kernel_rfl), fnB_ok Tryd.func51 (by kernel_rfl), fnB_ok Tryd.func52 (by kernel_rfl), fnB_ok Tryd.func53 (by kernel_rfl), fnB_ok Tryd.func54 (by kernel_rfl), fnB_ok Tryd.func55 (by kernel_rfl), fnB_ok Tryd.func57 (by kernel_rfl), fnB_ok Tryd.func58 (by kernel_rfl), fnB_ok Tryd.func59 (by kernel_rfl), fnB_ok Tryd.func60 (by kernel_rfl), fnB_ok Tryd.func61 (by kernel_rfl), fnB_ok Tryd.func64 (by kernel_rfl), fnB_ok Tryd.func65 (by kernel_rfl), fnB_ok Tryd.func66 (by kernel_rfl), fnB_ok Tryd.func67 (by kernel_rfl), fnB_ok Tryd.func68 (by kernel_rfl), fnB_ok Tryd.func69 (by kernel_rfl), fnB_ok Tryd.func70 (by kernel_rfl), fnB_ok Tryd.func71 (by kernel_rfl), fnB_ok Tryd.func72 (by kernel_rfl), fnB_ok Tryd.func73 (by kernel_rfl), fnB_ok Tryd.func74 (by kernel_rfl), fnB_ok Tryd.func75 (by kernel_rfl), fnB_ok Tryd.func76 (by kernel_rfl), fnB_ok Tryd.func77 (by kernel_rfl), fnB_ok Tryd.func80 (by kernel_rfl), fnB_ok Tryd.func81 (by kernel_rfl), fnB_ok Tryd.func82 (by kernel_rfl), fnB_ok Tryd.func83 (by kernel_rfl), fnB_ok Tryd.func84 (by kernel_rfl), fnB_ok Tryd.func85 (by kernel_rfl), fnB_ok Tryd.func90 (by kernel_rfl), trivial⟩
theorem exts [GL : Gl] (hG : ∃ g t fr, Tryd.prog.globalNamed "internal/strconv.uint64pow10" = some g ∧ GL.tab g (.cells (Lib.pow10Tab.map fun z => Value.int .u64 z).toArray t fr)) : ∀ f g, cfg.ext f = some g → ExtOK Tryd.prog f g := allE_look (tab := etab) ⟨clone_ok (tysB_ok tys) (fnB_ok Tryd.func32 (by kernel_rfl)) clone32, clone_ok (tysB_ok tys) (fnB_ok Tryd.func42 (by kernel_rfl)) clone42, text_ok ⟨⟨Tryd.f27, Tryd.func27, by kernel_rfl, by kernel_rfl⟩, fun b c xs w h1 h2 h3 h4 h5 => Tryd.text b c xs w h1 h2 h3 h4 h5⟩ hG, len64_ok ⟨⟨Tryd.f73, Tryd.func73, by kernel_rfl, by kernel_rfl⟩, fun x w h1 h2 => Tryd.bits_Len64 x w h1 h2⟩, add64_ok (fun x y c h1 h2 h3 h4 w => by rw [run_callFunc_extern Tryd.func56 (by kernel_rfl) (by kernel_rfl) (by kernel_rfl) (e := Go.add64Entry) (by kernel_rfl), Go.run_add64 x y c h1 h2 h3 h4 w]; rfl), trivial⟩
theorem cfg_ext32 : cfg.ext 32 = some (cloneExt 0) := by kernel_rfl
theorem cfg_ext42 : cfg.ext 42 = some (cloneExt 3) := by kernel_rfl
theorem cfg_ext27 : cfg.ext 27 = some textExt := by kernel_rfl
theorem cfg_ext73 : cfg.ext 73 = some len64Ext := by kernel_rfl
theorem cfg_ext56 : cfg.ext 56 = some add64Ext := by kernel_rfl
end Go.Cf

namespace Go.Cf
open Go Go.Ab
set_option linter.unusedVariables false
set_option maxRecDepth 100000
def n_main_main : Nat := 0
def n_gosem_cut : Nat := 1
def n_gosem_cut_init : Nat := 2
def n_roadbooklaw03_BagSorts : Nat := 3
def n_roadbooklaw03_BagSame : Nat := 4
def n_roadbooklaw03_BagCrosses : Nat := 5
def n_roadbooklaw03_awake : Nat := 6
def n_roadbooklaw03_few : Nat := 7
def n_bag_Sort : Nat := 8
def n_bag_Sorted : Nat := 9
def n_bag_Same : Nat := 10
def n_roadbookref03_Like : Nat := 11
def n_bag_Cross : Nat := 12
def n_bag_Pick : Nat := 13
def n_bag_Group : Nat := 14
def n_roadbooklaw03_Three : Nat := 15
def n_bag_May : Nat := 16
def n_bag_some : Nat := 17
def n_bag_Sort_1 : Nat := 18
def n_slices_Index_int_int : Nat := 19
def n_slices_SortStableFunc_api_Val_api_Val : Nat := 20
def n_bag_Sort_2 : Nat := 21
def n_bag_compare : Nat := 22
def n_bag_of : Nat := 23
def n_slices_IsSortedFunc_api_Val_api_Val : Nat := 24
def n_bag_Sorted_1 : Nat := 25
def n_slices_Equal_int_int : Nat := 26
def n_bag_text : Nat := 27
def n_roadbookref02_Ints : Nat := 28
def n_roadbookref03_Row : Nat := 29
def n_slices_Concat_int_int : Nat := 30
def n_slices_Concat_api_Val_api_Val : Nat := 31
def n_slices_Clone_int_int : Nat := 32
def n_bag_Group_1 : Nat := 33
def n_slices_Contains_int_int : Nat := 34
def n_slices_ContainsFunc_int_int : Nat := 35
def n_slices_SortFunc_bag_key_bag_key : Nat := 36
def n_val_Of : Nat := 37
def n_val_Sum : Nat := 38
def n_bag_May_1 : Nat := 39
def n_val_May : Nat := 40
def n_slices_ContainsFunc_api_Val_api_Val : Nat := 41
def n_slices_Clone_api_Val_api_Val : Nat := 42
def n_slices_stableCmpFunc_api_Val : Nat := 43
def n_slices_Compare_int_int : Nat := 44
def n_strings_Builder_WriteString : Nat := 45
def n_strconv_Itoa_c77d : Nat := 46
def n_strings_Builder_String : Nat := 47
def n_slices_Grow_int_int : Nat := 48
def n_slices_Grow_api_Val_api_Val : Nat := 49
def n_slices_IndexFunc_int_int : Nat := 50
def n_slices_pdqsortCmpFunc_bag_key : Nat := 51
def n_bits_Len : Nat := 52
def n_val_some_api_Val : Nat := 53
def n_val_kind : Nat := 54
def n_val_bad : Nat := 55
def n_bits_Add64 : Nat := 56
def n_val_null : Nat := 57
def n_slices_IndexFunc_api_Val_api_Val : Nat := 58
def n_slices_insertionSortCmpFunc_api_Val : Nat := 59
def n_slices_symMergeCmpFunc_api_Val : Nat := 60
def n_cmp_Compare_int : Nat := 61
def n_strings_Builder_copyCheck : Nat := 62
def n_strconv_Itoa_1f13 : Nat := 63
def n_slices_insertionSortCmpFunc_bag_key : Nat := 64
def n_slices_heapSortCmpFunc_bag_key : Nat := 65
def n_slices_breakPatternsCmpFunc_bag_key : Nat := 66
def n_slices_choosePivotCmpFunc_bag_key : Nat := 67
def n_slices_reverseRangeCmpFunc_bag_key : Nat := 68
def n_slices_partialInsertionSortCmpFunc_bag_key : Nat := 69
def n_slices_partitionEqualCmpFunc_bag_key : Nat := 70
def n_slices_partitionCmpFunc_bag_key : Nat := 71
def n_bits_Len32 : Nat := 72
def n_bits_Len64 : Nat := 73
def n_val_kind_1 : Nat := 74
def n_val_fine : Nat := 75
def n_slices_rotateCmpFunc_api_Val : Nat := 76
def n_cmp_isNaN_int : Nat := 77
def n_abi_NoEscape : Nat := 78
def n_strconv_FormatInt : Nat := 79
def n_slices_siftDownCmpFunc_bag_key : Nat := 80
def n_slices_nextPowerOfTwo : Nat := 81
def n_slices_xorshift_Next : Nat := 82
def n_slices_medianAdjacentCmpFunc_bag_key : Nat := 83
def n_slices_medianCmpFunc_bag_key : Nat := 84
def n_slices_swapRangeCmpFunc_api_Val : Nat := 85
def n_strconv_small : Nat := 86
def n_strconv_numDigits : Nat := 87
def n_strconv_formatBase10 : Nat := 88
def n_strconv_formatBits : Nat := 89
def n_slices_order2CmpFunc_bag_key : Nat := 90
def n_strconv_log10Pow2 : Nat := 91
def n_strconv_bool2_int : Nat := 92
def n_strconv_isPowerOfTwo : Nat := 93
def n_bits_TrailingZeros : Nat := 94
def n_bits_TrailingZeros32 : Nat := 95
def n_bits_TrailingZeros64 : Nat := 96
def n_runtime_boundsError_Error : Nat := 97
def n_runtime_boundsError_RuntimeError : Nat := 98
def n_runtime_errorString_Error : Nat := 99
def n_runtime_errorString_RuntimeError : Nat := 100
def n_runtime_plainError_Error : Nat := 101
def n_runtime_plainError_RuntimeError : Nat := 102
def n_runtime_errorAddressString_Error : Nat := 103
def n_runtime_errorAddressString_RuntimeError : Nat := 104
def n_runtime_TypeAssertionError_Error : Nat := 105
def n_runtime_TypeAssertionError_RuntimeError : Nat := 106
def n_runtime_PanicNilError_Error : Nat := 107
def n_runtime_PanicNilError_RuntimeError : Nat := 108
def n_abi_Type_Align : Nat := 109
def n_maps_unhashableTypeError_Error : Nat := 110
def n_maps_unhashableTypeError_RuntimeError : Nat := 111
def n_strings_Builder_Reset : Nat := 112
def n_abi_Kind_String : Nat := 113
def n_var_s_door_gosem_cut_vars_holds_initialisers_alone_see_the_manifest_s_row_cutvarsword_look_11_test_files_too : Nat := 114
def n_var_s_door_strconv_uint64pow10_is_laid_by_its_own_initialiser_plain_data_look_11 : Nat := 115
def n_var_s_door_bits_deBruijn32tab_is_laid_by_its_own_initialiser_plain_data_look_11 : Nat := 116
def n_var_s_door_bits_deBruijn64tab_is_laid_by_its_own_initialiser_plain_data_look_11 : Nat := 117
def n_var_s_door_the_look_of_gosem_cut_vars_went_over_the_folder_that_the_caller_named_as_the_repository_s_root_look_11 : Nat := 118
def n_gosem_cut_vars : Nat := 119
def t_int64 : Nat := 2
def t_int : Nat := 3
def t_bool : Nat := 4
def t_uint8 : Nat := 5
def t_abi_BoundsErrorCode : Nat := 6
def t_struct_x_int64_y_int_signed_bool_code_abi_BoundsErrorCode : Nat := 7
def t_runtime_boundsError : Nat := 8
def t_string : Nat := 9
def t_runtime_errorString : Nat := 10
def t_runtime_plainError : Nat := 11
def t_uintptr : Nat := 12
def t_struct_msg_string_addr_uintptr : Nat := 13
def t_runtime_errorAddressString : Nat := 14
def t_runtime_TypeAssertionError : Nat := 15
def t_runtime_PanicNilError : Nat := 16
def t_abi_Type : Nat := 17
def t_struct_typ_abi_Type : Nat := 18
def t_maps_unhashableTypeError : Nat := 19
def t_int32 : Nat := 21
def t_s_int : Nat := 22
def t_s_s_api_Val : Nat := 23
def t_struct_Cols_s_int_Rows_s_s_api_Val : Nat := 24
def t_api_Bag : Nat := 25
def t_s_api_Val : Nat := 30
def t_struct_K_int_N_int : Nat := 38
def t_api_Val : Nat := 39
def t_a2_int : Nat := 46
def t_bag_key : Nat := 47
def t_map_string_int : Nat := 52
def t_map_bag_key_s_s_api_Val : Nat := 61
def t_s_bag_key : Nat := 62
def t_a16_bool : Nat := 66
def t_strings_Builder : Nat := 72
def t_s_uint8 : Nat := 73
def t_struct_addr_strings_Builder_buf_s_uint8 : Nat := 74
def t_error : Nat := 77
def t_s_s_int : Nat := 82
def t_uint : Nat := 88
def t_uint64 : Nat := 91
def t_slices_sortedHint : Nat := 100
def t_uint32 : Nat := 108
def t_unsafe_Pointer : Nat := 111
def t_slices_xorshift : Nat := 114
def t_a24_uint8 : Nat := 120
def t_a20_uint64 : Nat := 129
def t_a65_uint8 : Nat := 130
def t_a32_uint8 : Nat := 131
def t_a64_uint8 : Nat := 132
def t_struct__interface_abi_Type_concrete_abi_Type_asserted_abi_Type_missingMethod_string : Nat := 133
def t_a0__runtime_PanicNilError : Nat := 135
def t_struct___a0__runtime_PanicNilError : Nat := 136
def t_abi_TFlag : Nat := 139
def t_abi_Kind : Nat := 140
def t_abi_NameOff : Nat := 142
def t_abi_TypeOff : Nat := 143
def t_struct_Size__uintptr_PtrBytes_uintptr_Hash_uint32_TFlag_abi_TFlag_Align__uint8_FieldAlign__uint8_Kind__abi_Kind_Equal_func_unsafe_Pointer_unsafe_Pointer_bool_GCData_uint8_Str_abi_NameOff_PtrToThis_abi_TypeOff : Nat := 144
theorem exW : ∃ W : Wf, W = evw cfg := ⟨_, rfl⟩
noncomputable def W : Wf := Classical.choose exW
theorem W_eq : W = evw cfg := Classical.choose_spec exW
theorem exT (fi : FnI) {R : Type} (fin : Ex → St → Option R) : ∃ jl : Jn R × Ln R, Tied cfg W fi fin jl.1 jl.2 := ⟨(_, _), tied cfg W fi fin⟩
theorem wq {f : FuncId} {fi : FnI} (he : cfg.ext f = none) (hf : cfg.fn f = some fi) (args : List PV) : wc W f args = body cfg W lpw fi args := by rw [W_eq]; exact evw_eq he hf args
theorem wqO {f : FuncId} {fi : FnI} (he : cfg.ext f = none) (hf : cfg.fn f = some fi) (raw : Bool) (args : List AV) (ow : List Ob) : W f raw args ow = bodyO cfg W lpw fi raw args ow := by rw [W_eq]; exact evw_eqO he hf raw args ow
theorem go {f : FuncId} {fi : FnI} {args : List PV} {r : Option PV} {jn : Jn PV} {ln : Ln PV} (he : cfg.ext f = none) (hf : cfg.fn f = some fi) (h : Tied cfg W fi (fin cfg fi) jn ln) (e : (bif args.length == fi.np then Gf cfg W fi jn ln fi.code [] ⟨args0 0 args, []⟩ (fin cfg fi) else none) = r) : wc W f args = r := (wq he hf args).trans ((h.body args).trans e)
theorem goO {f : FuncId} {fi : FnI} {raw : Bool} {n : Nat} {args : List AV} {ow : List Ob} {r : Option (AV × List Ob)} {jn : Jn (AV × List Ob)} {ln : Ln (AV × List Ob)} (he : cfg.ext f = none) (hf : cfg.fn f = some fi) (h : Tied cfg W fi (finO cfg fi raw n) jn ln) (hn : ow.length = n) (e : (bif args.length == fi.np then Gf cfg W fi jn ln fi.code [] ⟨args0A 0 args, ow⟩ (finO cfg fi raw n) else none) = r) : W f raw args ow = r := (wqO he hf raw args ow).trans ((h.bodyO args ow hn).trans e)
def c_b {R : Type} (p : PV) (K : Bool → Option R) : Option R := (PV.asBool p).bind fun zzx0 => K zzx0
@[simp] theorem c_b_mk (zzx0 : Bool) {R : Type} (K : Bool → Option R) : c_b (PV.bool zzx0) K = K zzx0 := rfl
def c_g_i64_i64 {R : Type} (p : PV) (K : Int → Int → Option R) : Option R := (PV.asAgg p).bind fun c0 => (c0[0]?).bind fun p1 => (PV.asIntK .i64 p1).bind fun zzx2 => (c0[1]?).bind fun p3 => (PV.asIntK .i64 p3).bind fun zzx4 => bif c0.length == 2 then (K zzx2 zzx4) else none
@[simp] theorem c_g_i64_i64_mk (zzx2 : Int) (zzx4 : Int) {R : Type} (K : Int → Int → Option R) : c_g_i64_i64 (PV.agg [(PV.int .i64 zzx2), (PV.int .i64 zzx4)]) K = K zzx2 zzx4 := rfl
def c_g_s0_s0 {R : Type} (p : PV) (K : List PV → List PV → Option R) : Option R := (PV.asAgg p).bind fun c0 => (c0[0]?).bind fun p1 => (PV.asSlice 0 p1).bind fun zzx2 => (c0[1]?).bind fun p3 => (PV.asSlice 0 p3).bind fun zzx4 => bif c0.length == 2 then (K zzx2 zzx4) else none
@[simp] theorem c_g_s0_s0_mk (zzx2 : List PV) (zzx4 : List PV) {R : Type} (K : List PV → List PV → Option R) : c_g_s0_s0 (PV.agg [(PV.slice 0 zzx2), (PV.slice 0 zzx4)]) K = K zzx2 zzx4 := rfl
def c_i64 {R : Type} (p : PV) (K : Int → Option R) : Option R := (PV.asIntK .i64 p).bind fun zzx0 => K zzx0
@[simp] theorem c_i64_mk (zzx0 : Int) {R : Type} (K : Int → Option R) : c_i64 (PV.int .i64 zzx0) K = K zzx0 := rfl
def c_s0 {R : Type} (p : PV) (K : List PV → Option R) : Option R := (PV.asSlice 0 p).bind fun zzx0 => K zzx0
@[simp] theorem c_s0_mk (zzx0 : List PV) {R : Type} (K : List PV → Option R) : c_s0 (PV.slice 0 zzx0) K = K zzx0 := rfl
def c_s3 {R : Type} (p : PV) (K : List PV → Option R) : Option R := (PV.asSlice 3 p).bind fun zzx0 => K zzx0
@[simp] theorem c_s3_mk (zzx0 : List PV) {R : Type} (K : List PV → Option R) : c_s3 (PV.slice 3 zzx0) K = K zzx0 := rfl
def c_t {R : Type} (p : PV) (K : ByteArray → Option R) : Option R := (PV.asStr p).bind fun zzx0 => K zzx0
@[simp] theorem c_t_mk (zzx0 : ByteArray) {R : Type} (K : ByteArray → Option R) : c_t (PV.str zzx0) K = K zzx0 := rfl
def k_5b106d {R : Type} (z : AV × List Ob) (K : PV → Int → Option R) : Option R := (AV.asPv z.1).bind fun q0 => (some q0).bind fun zzx1 => (z.2[0]?).bind fun p2 => (Ob.asVar false 0 p2).bind fun a3 => (AV.asPv a3).bind fun q4 => (PV.asIntK .i64 q4).bind fun zzx5 => bif z.2.length == 1 then (K zzx1 zzx5) else none
@[simp] theorem k_5b106d_mk (zzx1 : PV) (zzx5 : Int) {R : Type} (K : PV → Int → Option R) : k_5b106d ((AV.pv zzx1), [(Ob.var false 0 (AV.pv (PV.int .i64 zzx5)))]) K = K zzx1 zzx5 := rfl
def k_83ed81 {R : Type} (z : AV × List Ob) (K : List PV → Option R) : Option R := bif AV.isView 0 z.1 then ((z.2[0]?).bind fun p0 => (Ob.asRow false 0 3 p0).bind fun zzx1 => bif z.2.length == 1 then (K zzx1) else none) else none
@[simp] theorem k_83ed81_mk (zzx1 : List PV) {R : Type} (K : List PV → Option R) : k_83ed81 ((AV.view 0 0 none), [(Ob.row false 0 (3 : Nat) zzx1)]) K = K zzx1 := rfl
def k_8de13e {R : Type} (z : AV × List Ob) (K : List PV → List PV → Option R) : Option R := (AV.asAggA z.1).bind fun c0 => (c0[0]?).bind fun p1 => (AV.asPv p1).bind fun q2 => (PV.asSlice 0 q2).bind fun zzx3 => (c0[1]?).bind fun p4 => bif AV.isView 0 p4 then (bif c0.length == 2 then ((z.2[0]?).bind fun p5 => (Ob.asRow false 0 0 p5).bind fun zzx6 => bif z.2.length == 1 then (K zzx3 zzx6) else none) else none) else none
@[simp] theorem k_8de13e_mk (zzx3 : List PV) (zzx6 : List PV) {R : Type} (K : List PV → List PV → Option R) : k_8de13e ((AV.agg [(AV.pv (PV.slice 0 zzx3)), (AV.view 0 0 none)]), [(Ob.row false 0 (0 : Nat) zzx6)]) K = K zzx3 zzx6 := rfl
def k_c4d914 {R : Type} (z : AV × List Ob) (K : PV → List PV → Int → Option R) : Option R := (AV.asPv z.1).bind fun q0 => (some q0).bind fun zzx1 => (z.2[0]?).bind fun p2 => (Ob.asFix 0 0 p2).bind fun zzx3 => (z.2[1]?).bind fun p4 => (Ob.asVar false 0 p4).bind fun a5 => (AV.asPv a5).bind fun q6 => (PV.asIntK .i64 q6).bind fun zzx7 => bif z.2.length == 2 then (K zzx1 zzx3 zzx7) else none
@[simp] theorem k_c4d914_mk (zzx1 : PV) (zzx3 : List PV) (zzx7 : Int) {R : Type} (K : PV → List PV → Int → Option R) : k_c4d914 ((AV.pv zzx1), [(Ob.fix 0 0 zzx3), (Ob.var false 0 (AV.pv (PV.int .i64 zzx7)))]) K = K zzx1 zzx3 zzx7 := rfl
def k_d697de {R : Type} (z : AV × List Ob) (K : List PV → Option R) : Option R := bif AV.isView 0 z.1 then ((z.2[0]?).bind fun p0 => (Ob.asRow false 0 0 p0).bind fun zzx1 => bif z.2.length == 1 then (K zzx1) else none) else none
@[simp] theorem k_d697de_mk (zzx1 : List PV) {R : Type} (K : List PV → Option R) : k_d697de ((AV.view 0 0 none), [(Ob.row false 0 (0 : Nat) zzx1)]) K = K zzx1 := rfl
theorem x_bag_text (xs : List PV) (l : List (Int × Int)) (hp : pairsP xs = some l) (hl : xs.length ≤ 1000000) : wc W n_bag_text [.slice 3 xs] = some (.str (textS l)) := by rw [W_eq]; exact text_w cfg_ext27 xs l hp hl
theorem x_slices_Clone_int_int (xs : List PV) (h : xs.length ≤ 4294967296) : wc W n_slices_Clone_int_int [PV.slice 0 xs] = some (PV.slice 0 xs) := by rw [W_eq]; exact clone_w cfg_ext32 xs h
theorem x_slices_Clone_api_Val_api_Val (xs : List PV) (h : xs.length ≤ 4294967296) : wc W n_slices_Clone_api_Val_api_Val [PV.slice 3 xs] = some (PV.slice 3 xs) := by rw [W_eq]; exact clone_w cfg_ext42 xs h
theorem x_bits_Add64 (x y z : Int) (h1 : 0 ≤ x) (h2 : 0 ≤ y) (h3 : 0 ≤ z) (h4 : z ≤ 1) : wc W n_bits_Add64 [.int .u64 x, .int .u64 y, .int .u64 z] = some (.tup [.int .u64 ((x + y + z) % 18446744073709551616), .int .u64 ((x + y + z) / 18446744073709551616)]) := by rw [W_eq]; exact add64_w cfg_ext56 x y z h1 h2 h3 h4
end Go.Cf

namespace Go.Cf
open Go Go.Ab
set_option linter.unusedVariables false
def I64 (n : Int) : Prop := -9223372036854775808 ≤ n ∧ n ≤ 9223372036854775807
theorem wrap64 {n : Int} (h1 : -9223372036854775808 ≤ n) (h2 : n ≤ 9223372036854775807) : IntKind.wrap .i64 n = n := by
  simp only [IntKind.wrap, IntKind.bits, IntKind.signed]
  simp
  omega
theorem wrapI {n : Int} (h : I64 n) : IntKind.wrap .i64 n = n := wrap64 h.1 h.2
theorem wrap_nat {n : Nat} (h : n ≤ 9223372036854775807) : IntKind.wrap .i64 (n : Int) = n := wrap64 (by omega) (by omega)
theorem wrap_succ {n : Nat} (h : n < 9223372036854775807) : IntKind.wrap .i64 ((n : Int) + 1) = ((n + 1 : Nat) : Int) := by rw [wrap64 (by omega) (by omega)]; omega
@[simp] theorem asTup_mk (l : List PV) : PV.asTup (.tup l) = some l := rfl
@[simp] theorem asFn_mk (f : Nat) (a b : List PV) : PV.asFn (.fn f a b) = some (f, a, b) := rfl
@[simp] theorem nat_le (n : Nat) : decide ((0 : Int) ≤ (n : Int)) = true := by simp
theorem wf_i64 {n : Int} (h : (Lit.int .i64 n).wf = true) : I64 n := by
  simp only [Lit.wf, Bool.and_eq_true, decide_eq_true_eq] at h
  exact h
theorem bif_t {α : Type} (a b : α) : (bif true then a else b) = a := rfl
theorem bif_f {α : Type} (a b : α) : (bif false then a else b) = b := rfl
theorem toList_beq (a b : ByteArray) : (a.toList == b.toList) = decide (a = b) := by
  by_cases h : a = b
  · subst h; simp
  · rw [decide_eq_false h]
    simp only [beq_eq_false_iff_ne, ne_eq]
    intro e
    apply h
    have : a.data.toList = b.data.toList := by
      have e1 : ∀ x : ByteArray, x.toList = x.data.toList := fun x => ByteArray.toList_eq x
      rw [← e1, ← e1, e]
    cases a; cases b; simp_all
theorem loop_all {R : Type} (L : Int → Option R) (n : Nat) (p : Nat → Bool) (r s : Option R) (hs : ∀ i : Nat, i < n → L (i : Int) = bif p i then L ((i : Int) + 1) else r) (he : L (n : Int) = s) :
    L 0 = bif (List.range n).all p then s else r := by
  have : ∀ k i : Nat, i + k = n → L (i : Int) = bif (List.range' i k).all p then s else r := by
    intro k
    induction k with
    | zero => intro i h; simp at h; subst h; simpa using he
    | succ k ih =>
      intro i h
      rw [hs i (by omega), show ((i : Int) + 1) = ((i + 1 : Nat) : Int) by omega, ih (i + 1) (by omega), List.range'_succ, List.all_cons]
      cases p i <;> simp
  have h0 := this n 0 (by omega)
  rw [List.range_eq_range']
  exact h0
theorem all_get {α : Type} (l : List α) (q : α → Bool) : ((List.range l.length).all fun i => (l[i]?).all q) = l.all q := by
  rw [Bool.eq_iff_iff, List.all_eq_true, List.all_eq_true]
  constructor
  · intro h x hx
    obtain ⟨i, hi, rfl⟩ := List.mem_iff_getElem.1 hx
    have := h i (by simpa using hi)
    simpa [List.getElem?_eq_getElem hi] using this
  · intro h i hi
    have hi' : i < l.length := by simpa using hi
    simpa [List.getElem?_eq_getElem hi'] using h _ (List.getElem_mem hi')
theorem lt_len {i n : Nat} (h : i < n) : decide ((i : Int) < (n : Int)) = true := by simpa using h
theorem ge_len {n : Nat} : decide ((n : Int) < (n : Int)) = false := by simp
theorem bne_t {α : Type} [BEq α] [LawfulBEq α] {a b : α} (h : a ≠ b) : (a != b) = true := by simpa using h
theorem bne_f {α : Type} [BEq α] [LawfulBEq α] {a b : α} (h : a = b) : (a != b) = false := by simpa using h
theorem beq_t {α : Type} [BEq α] [LawfulBEq α] {a b : α} (h : a = b) : (a == b) = true := by simpa using h
theorem beq_f {α : Type} [BEq α] [LawfulBEq α] {a b : α} (h : a ≠ b) : (a == b) = false := by simpa using h
theorem all_eq {α : Type} [DecidableEq α] (a b : List α) (e : a.length = b.length) : ((List.range a.length).all fun i => decide (a[i]? = b[i]?)) = decide (a = b) := by
  by_cases hab : a = b
  · subst hab; simp
  · rw [decide_eq_false hab, Bool.eq_false_iff]
    intro hall
    apply hab
    rw [List.all_eq_true] at hall
    apply List.ext_getElem?
    intro i
    by_cases hi : i < a.length
    · simpa using hall i (by simpa using hi)
    · rw [List.getElem?_eq_none (by omega), List.getElem?_eq_none (by omega)]
end Go.Cf
