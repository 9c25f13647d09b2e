/- Part 12 of the proof: an abstract machine that runs the program's code over plain values, its soundness, and what the functions tell of plain values. Conditions: those in each theorem. -/
import Derived.Test.YtgebkpchpliahaaA10
import Derived.Shelf.SlSortCmp.NoneTotal
import Derived.Shelf.Bits.Mul64
import Derived.Shelf.Small.Bits
import Derived.Test.YtgebkpchpliahaaProg
import Derived.WalkKit
import Derived.Deep.RegionWith
import Derived.LoopN
set_option linter.unusedSectionVars false
namespace Go.Ab
open Go.RowKit (Below)
set_option linter.unusedVariables false
set_option linter.unusedSimpArgs false
set_option linter.unusedSectionVars false
def encK (x : Int × Int) : List Value := [.int .i64 x.1, .int .i64 x.2]
def keyP (x : Int × Int) : PV := .agg [.int .i64 x.1, .int .i64 x.2]
def cmpK (a b : Int × Int) : Int := if a.1 < b.1 then -1 else if a.1 > b.1 then 1 else if a.2 < b.2 then -1 else if a.2 > b.2 then 1 else 0
def leK (x y : Int × Int) : Bool := !decide (cmpK y x < 0)
def insK (x : Int × Int) : List (Int × Int) → List (Int × Int)
  | [] => [x]
  | y :: r => bif leK x y then x :: y :: r else y :: insK x r
def sortKeys : List (Int × Int) → List (Int × Int)
  | [] => []
  | x :: r => insK x (sortKeys r)
theorem leK_iff (x y : Int × Int) : leK x y = true ↔ x.1 < y.1 ∨ (x.1 = y.1 ∧ x.2 ≤ y.2) := by
  unfold leK cmpK
  rw [Bool.not_eq_true', decide_eq_false_iff_not]
  split
  · constructor <;> intro <;> omega
  · split
    · constructor <;> intro <;> omega
    · split
      · constructor <;> intro <;> omega
      · split <;> constructor <;> intro <;> omega
theorem leK_total (x y : Int × Int) : leK x y = true ∨ leK y x = true := by rw [leK_iff, leK_iff]; omega
theorem leK_trans (x y z : Int × Int) (h : leK x y = true) (k : leK y z = true) : leK x z = true := by rw [leK_iff] at *; omega
theorem leK_anti (x y : Int × Int) (h : leK x y = true) (k : leK y x = true) : x = y := by
  rw [leK_iff] at h k
  obtain ⟨a, b⟩ := x
  obtain ⟨c, d⟩ := y
  simp only [Prod.mk.injEq] at *
  omega
theorem insK_perm (x : Int × Int) : ∀ l, (insK x l).Perm (x :: l)
  | [] => List.Perm.refl _
  | y :: r => by
    unfold insK
    cases leK x y with
    | true => exact List.Perm.refl _
    | false => exact ((insK_perm x r).cons y).trans (List.Perm.swap x y r)
theorem insK_sorted (x : Int × Int) : ∀ l, l.Pairwise (fun a b => leK a b = true) → (insK x l).Pairwise fun a b => leK a b = true
  | [], _ => by simp [insK]
  | y :: r, h => by
    unfold insK
    have h2 := List.pairwise_cons.1 h
    cases hx : leK x y with
    | true =>
      refine List.pairwise_cons.2 ⟨fun z hz => ?_, h⟩
      rcases List.mem_cons.1 hz with rfl | hz
      · exact hx
      · exact leK_trans _ _ _ hx (h2.1 z hz)
    | false =>
      refine List.pairwise_cons.2 ⟨fun z hz => ?_, insK_sorted x r h2.2⟩
      rcases List.mem_cons.1 ((insK_perm x r).mem_iff.1 hz) with rfl | hz
      · rcases leK_total y z with h | h
        · exact h
        · rw [hx] at h; cases h
      · exact h2.1 z hz
theorem sortKeys_perm : ∀ l, (sortKeys l).Perm l
  | [] => List.Perm.refl _
  | x :: r => (insK_perm x (sortKeys r)).trans ((sortKeys_perm r).cons x)
theorem sortKeys_sorted : ∀ l, (sortKeys l).Pairwise fun a b => leK a b = true
  | [] => List.Pairwise.nil
  | x :: r => insK_sorted x _ (sortKeys_sorted r)
theorem sorted_one : ∀ {l l' : List (Int × Int)}, l.Perm l' → l.Pairwise (fun a b => leK a b = true) → l'.Pairwise (fun a b => leK a b = true) → l = l'
  | [], l', h, _, _ => (List.nil_perm.1 h).symm
  | x :: r, [], h, _, _ => by have := h.length_eq; simp at this
  | x :: r, y :: s, h, h1, h2 => by
    have a1 := List.pairwise_cons.1 h1
    have a2 := List.pairwise_cons.1 h2
    have e : x = y := by
      rcases List.mem_cons.1 (h.mem_iff.1 (List.mem_cons_self)) with e | hx
      · exact e
      · rcases List.mem_cons.1 (h.mem_iff.2 (List.mem_cons_self (a := y))) with e | hy
        · exact e.symm
        · exact leK_anti _ _ (a1.1 y hy) (a2.1 x hx)
    subst e
    rw [sorted_one h.cons_inv a1.2 a2.2]
theorem sortKeys_eq (zs : List (Int × Int)) : sortKeys zs = zs.mergeSort leK :=
  sorted_one ((sortKeys_perm zs).trans (List.mergeSort_perm zs leK).symm) (sortKeys_sorted zs) (List.pairwise_mergeSort (fun a b c => leK_trans a b c) (fun a b => by rcases leK_total a b with h | h <;> simp [h]) zs)
theorem sortKeys_len (zs : List (Int × Int)) : (sortKeys zs).length = zs.length := (sortKeys_perm zs).length_eq
variable [GL : Gl]
structure SortKC (P : Program) (f g : FuncId) : Prop where
  fn : HasFn P f
  run : ∀ (blk off cap : Nat) (d : Array (Int × Int)) (w : World), Go.Sort.HoldsK encK 2 w blk off d → blk < w.heap.size → d.size < 4611686018427387904 →
    Calls P f #[.slice (some ⟨blk, off, none⟩) d.size cap, .func (.func g) #[] #[]] w fun e w' => e = .returned (.tuple #[]) ∧ ∃ n os, w' = Go.Proofs.sortWorldK encK 2 w blk off n (sortKeys d.toList).toArray os
  none : ∀ (p : Option Addr) (cap : Nat) (fv : Value) (w : World), Calls P f #[.slice p 0 cap, fv] w fun e w' => e = .returned (.tuple #[]) ∧ w' = w
def keyOf : PV → Option (Int × Int)
  | .agg [p, q] => (PV.asIntK .i64 p).bind fun a => (PV.asIntK .i64 q).bind fun b => some (a, b)
  | _ => none
theorem keyOf_eq {p : PV} {k : Int × Int} (h : keyOf p = some k) : p = keyP k := by
  unfold keyOf at h
  split at h
  · obtain ⟨a, h1, h⟩ := Option.bind_eq_some_iff.1 h
    obtain ⟨b, h2, h⟩ := Option.bind_eq_some_iff.1 h
    simp only [Option.some.injEq] at h; subst h
    rw [asIntK_eq h1, asIntK_eq h2]; rfl
  · cases h
def keysL : List PV → Option (List (Int × Int))
  | [] => some []
  | p :: ps => (keyOf p).bind fun n => (keysL ps).bind fun ns => some (n :: ns)
theorem keysL_eq : ∀ {ps : List PV} {ns : List (Int × Int)}, keysL ps = some ns → ps = ns.map keyP
  | [], ns, h => by simp [keysL] at h; subst h; rfl
  | p :: ps, ns, h => by
    simp only [keysL] at h
    obtain ⟨n, h1, h⟩ := Option.bind_eq_some_iff.1 h
    obtain ⟨ms, h2, h⟩ := Option.bind_eq_some_iff.1 h
    simp only [Option.some.injEq] at h; subst h
    rw [keyOf_eq h1, keysL_eq h2]; rfl
theorem keysL_map : ∀ (ns : List (Int × Int)), keysL (ns.map keyP) = some ns
  | [] => rfl
  | n :: ns => by simp [keysL, keyP, keyOf, PV.asIntK, keysL_map ns]
def sortKG (g : FuncId) (args : List AV) (ow : List Ob) : Option (AV × List Ob) :=
  match args, ow with
  | [.fx 0 sh, .pv (.fn g' [] [])], [.fix ver sh' xs] => bif sh == 3 && sh' == 3 && decide (g = g') && decide (xs.length ≤ lim) then (keysL xs).bind fun zs => some (.pv (.tup []), [.fix ver 3 ((sortKeys zs).map keyP)]) else none
  | _, _ => none
def sortKExt (g : FuncId) : ExtF := ⟨fun _ raw a ow => bif raw then none else sortKG g a ow, fun _ _ _ _ _ _ _ h => h⟩
theorem holdsK_of {S : Pr} {w : World} {b o0 : Nat} {cs : Array Value} {t : TypeId} {zs : List (Int × Int)} (hh : w.heap[b]? = some (.cells cs t (0, 0)))
    (hx : ∀ (i j : Nat), i < (zs.map keyP).length → j < szOf 3 → ∃ v, cs[o0 + i * szOf 3 + j]? = some v ∧ v.oneCell' = true ∧ (∀ (x p : PV), (zs.map keyP)[i]? = some x → x.cells[j]? = some p → VP S v p)) :
    Go.Sort.HoldsK encK 2 w b o0 zs.toArray := by
  intro t ht
  rw [Go.Sort.size_flatK] at ht
  have hi : t / 2 < zs.length := by simp at ht; omega
  rw [Go.Sort.get_flatK _ _ _ _ ht]
  obtain ⟨v, h1, h2, h3⟩ := hx (t / 2) (t % 2) (by simpa using hi) (by simp [szOf]; omega)
  have e : (zs.toArray[t / 2]! : Int × Int) = zs[t / 2] := by simp [getElem!_pos, hi]
  have e1 : o0 + t / 2 * szOf 3 + t % 2 = o0 + t := by simp [szOf]; omega
  rw [e1] at h1
  have hv : v = (encK zs[t / 2])[t % 2]! := by
    rcases Nat.mod_two_eq_zero_or_one t with hm | hm
    · rw [hm] at h3 ⊢
      exact VP.int_inv (h3 (keyP zs[t / 2]) (.int .i64 (zs[t / 2]).1) (by simp [hi]) rfl)
    · rw [hm] at h3 ⊢
      exact VP.int_inv (h3 (keyP zs[t / 2]) (.int .i64 (zs[t / 2]).2) (by simp [hi]) rfl)
  subst hv
  refine ⟨?_, ?_⟩
  · unfold World.cell?
    simp only [hh, e, id]
    exact h1
  · unfold World.frozen?
    simp only [hh]
    simp
theorem sortK_ok {P : Program} {f g : FuncId} (hC : SortKC P f g) : ExtOK P f (sortKExt g) := by
  intro call hcall raw args ow r ow' h
  simp only [sortKExt] at h
  cases raw with
  | true => cases h
  | false =>
  simp only [cond_false, sortKG] at h
  split at h
  · rename_i sh g' ver sh' xs
    obtain ⟨hc, h2⟩ := bif_some h
    clear h
    simp only [Bool.and_eq_true, beq_iff_eq, decide_eq_true_eq] at hc
    obtain ⟨⟨⟨rfl, rfl⟩, rfl⟩, hlim⟩ := hc
    obtain ⟨zs, hzs, h3⟩ := Option.bind_eq_some_iff.1 h2
    clear h2
    simp only [Option.some.injEq, Prod.mk.injEq] at h3
    obtain ⟨rfl, rfl⟩ := h3
    have hxs := keysL_eq hzs
    subst hxs
    refine Valid.of hC.fn fun S L w vs inv hvs => ?_
    obtain ⟨hlen, hv⟩ := hvs
    match vs, hlen, hv with
    | [v, fv], _, hv =>
      have hf : VP S fv (.fn g [] []) := hv 1 fv _ rfl rfl
      have hfe : fv = .func (.func g) #[] #[] := by
        cases hf with
        | fn f fs cs qs ps hm hl k h =>
          have e1 : fs = #[] := Array.size_eq_zero_iff.1 (by simpa using hm)
          have e2 : cs = #[] := Array.size_eq_zero_iff.1 (by simpa using hl)
          rw [e1, e2]
      subst hfe
      obtain ⟨base, n, cap, hL, _, rfl⟩ := (show VA1 S L _ v (.fx 0 3) from hv 0 v _ rfl rfl)
      obtain ⟨_, rfl, r1, r2, r3⟩ := inv.obs 0 _ _ rfl hL
      rw [List.length_map] at r1 hL hlim ⊢
      by_cases hz : zs = []
      · subst hz
        refine (hC.none base cap _ w).mono ?_
        rintro e w' ⟨rfl, rfl⟩
        refine ⟨_, S, L, rfl, ?_, VP.tup #[] [] rfl (fun j v p h => by simp at h)⟩
        simpa [sortKeys] using inv
      · have hpos : 0 < zs.length := List.length_pos_iff.2 hz
        rcases r3 with r3 | ⟨b, o0, cs, t, rfl, hh, hfit, hx⟩
        · omega
        have hc0 : cap ≠ 0 := by omega
        have hblt : b < w.heap.size := by
          rcases Nat.lt_or_ge b w.heap.size with h' | h'
          · exact h'
          · rw [Array.getElem?_eq_none h'] at hh; cases hh
        refine (hC.run b o0 cap zs.toArray w (holdsK_of hh hx) hblt (by unfold lim at hlim; simp; omega)).mono ?_
        rintro e w' ⟨rfl, n, os, rfl⟩
        refine ⟨_, S, L, rfl, ?_, VP.tup #[] [] rfl (fun j v p h => by simp at h)⟩
        have hl2 : ((sortKeys zs).map keyP).length = (zs.map keyP).length := by simp [sortKeys_len]
        refine fix_turn inv (o := 0) (ver := ver) (xs := zs.map keyP) rfl (by rw [List.length_map]; exact hL) rfl hc0 hl2 (fun y hy => ?_) (putW_of w n b (Sort.putCells id o0 (Go.Sort.flatK encK 2 (sortKeys zs).toArray)) os) (fun cs => by simp [Sort.putCells]) ?_
        · simp only [List.mem_map] at hy; obtain ⟨z, _, rfl⟩ := hy; rfl
        · intro cs' t' hh' hfit' i j hi hj
          have hj2 : j < 2 := by simpa [szOf] using hj
          have e3 : szOf 3 = 2 := rfl
          rw [e3] at hfit' ⊢
          have hi' : i < (sortKeys zs).length := by simpa using hi
          have hi2 : i < zs.length := by rwa [sortKeys_len] at hi'
          have ht : i * 2 + j < (sortKeys zs).toArray.size * 2 := by simp only [List.size_toArray]; omega
          have hg := Go.Sort.get_flatK encK 2 (sortKeys zs).toArray (i * 2 + j) ht
          rw [show (i * 2 + j) / 2 = i by omega, show (i * 2 + j) % 2 = j by omega] at hg
          have ed : ((sortKeys zs).toArray[i]! : Int × Int) = (sortKeys zs)[i] := by simp [getElem!_pos, hi']
          rw [ed] at hg
          refine ⟨(encK (sortKeys zs)[i])[j]!, ?_, ?_, fun x p hx hp => ?_⟩
          · rw [Sort.putCells, Array.getElem?_mapIdx, Array.getElem?_eq_getElem (show o0 + i * 2 + j < cs'.size by omega)]
            simp only [Option.map_some, Option.some.injEq]
            rw [if_pos (by rw [Go.Sort.size_flatK]; omega), show o0 + i * 2 + j - o0 = i * 2 + j by omega, hg]; rfl
          · match j, hj2 with
            | 0, _ => rfl
            | 1, _ => rfl
          · simp only [List.getElem?_map, List.getElem?_eq_getElem hi', Option.map_some, Option.some.injEq] at hx
            subst hx
            match j, hj2 with
            | 0, _ => simp [keyP, PV.cells] at hp; subst hp; exact VP.int _ _
            | 1, _ => simp [keyP, PV.cells] at hp; subst hp; exact VP.int _ _
  · cases h
theorem sortK_w {c : Cfg} {f g : FuncId} (h : c.ext f = some (sortKExt g)) (ver : Nat) (zs : List (Int × Int)) (hl : zs.length ≤ lim) :
    evw c f false [.fx 0 3, .pv (.fn g [] [])] [.fix ver 3 (zs.map keyP)] = some (.pv (.tup []), [.fix ver 3 ((sortKeys zs).map keyP)]) := by
  rw [evw_ext h]
  simp [sortKExt, sortKG, hl, keysL_map]
end Go.Ab

namespace Go.Proofs
open Go.Shelf
def Try.lays129_ren : Go.Shelf.Ren := ⟨fun | 129 => 99 | n => n, fun | 53 => 113 | 3 => 3 | 4 => 4 | 46 => 109 | 5 => 5 | 9 => 9 | n => n, fun | n => n⟩
theorem Try.lays129 : Go.Proofs.Lays.n129 Try.prog Try.lays129_ren := {
  mixed := by kernel_rfl
  f129 := Try.func99.trans (congrArg some (by kernel_rfl))
  t3 := Try.underlying3
  a3 := Try.isAgg3
  z3 := Try.sizeOf3
  v3 := Try.zeroValue3
  t4 := Try.underlying4
  a4 := Try.isAgg4
  z4 := Try.sizeOf4
  v4 := Try.zeroValue4
  t5 := Try.underlying5
  a5 := Try.isAgg5
  z5 := Try.sizeOf5
  v5 := Try.zeroValue5
  t9 := Try.underlying9
  a9 := Try.isAgg9
  z9 := Try.sizeOf9
  v9 := Try.zeroValue9
  t46 := Try.underlying109
  a46 := Try.isAgg109
  z46 := Try.sizeOf109
  v46 := Try.zeroValue109
  t53 := Try.underlying113
  a53 := Try.isAgg113
  z53 := Try.sizeOf113
  v53 := Try.zeroValue113 }
theorem Try.bits_Len64 (x : Int) (w : World) (h0 : 0 ≤ x) (h1 : x ≤ 18446744073709551615) :
    Calls Try.prog 99 #[.int .u64 x] w fun e w' => e = .returned (.int .i64 (Lib.bitLen x.toNat)) ∧ w' = w := Any.bits_Len64 Try.lays129 x w h0 h1
def Try.lays264_ren : Go.Shelf.Ren := ⟨fun | 264 => 138 | n => n, fun | 53 => 113 | 46 => 109 | n => n, fun | n => n⟩
theorem Try.lays264 : Go.Proofs.Lays.n264 Try.prog Try.lays264_ren := {
  mixed := by kernel_rfl
  f264 := Try.func138.trans (congrArg some (by kernel_rfl))
  t46 := Try.underlying109
  a46 := Try.isAgg109
  z46 := Try.sizeOf109
  v46 := Try.zeroValue109
  t53 := Try.underlying113
  a53 := Try.isAgg113
  z53 := Try.sizeOf113
  v53 := Try.zeroValue113 }
open Go.RowKit Go.Lib in
theorem Try.bits_Mul64 (x y : Nat) (hx : x < 18446744073709551616) (hy : y < 18446744073709551616) (w : World) :
    Calls Try.prog 138 #[.int .u64 x, .int .u64 y] w fun e w' => e = .returned (.tuple #[.int .u64 ((x * y / 18446744073709551616 : Nat) : Int), .int .u64 ((x * y % 18446744073709551616 : Nat) : Int)]) ∧ w' = w := Any.bits_Mul64 Try.lays264 x y hx hy w
end Go.Proofs

namespace Go.Proofs
open Go.Shelf Go.RowKit Go.Lib Go.Sort
def Try.sortK_ren : Go.Shelf.Ren := ⟨fun | 6 => 55 | 15 => 77 | 14 => 76 | 28 => 98 | 29 => 99 | 20 => 90 | 21 => 91 | 22 => 92 | 23 => 93 | 24 => 94 | 25 => 95 | 26 => 96 | 27 => 97 | 46 => 107 | 47 => 108 | 48 => 109 | 49 => 110 | 50 => 111 | 57 => 118 | n => n, fun | 22 => 82 | 24 => 84 | 25 => 87 | 3 => 3 | 39 => 109 | 0 => 0 | 53 => 130 | 55 => 113 | 4 => 4 | 46 => 123 | 45 => 122 | 50 => 127 | 5 => 5 | 9 => 9 | 66 => 135 | 70 => 139 | 76 => 147 | 77 => 148 | n => n, fun | n => n⟩
theorem Try.sortK : Go.Proofs.SlLaysF0.n6 Try.prog Try.sortK_ren := {
  mixed := by kernel_rfl
  f6 := ⟨Try.f55.name, by decide, Try.func55.trans (congrArg some (by kernel_rfl))⟩
  f14 := ⟨Try.f76.name, by decide, Try.func76.trans (congrArg some (by kernel_rfl))⟩
  f15 := Try.func77.trans (congrArg some (by kernel_rfl))
  f20 := ⟨Try.f90.name, by decide, Try.func90.trans (congrArg some (by kernel_rfl))⟩
  f21 := ⟨Try.f91.name, by decide, Try.func91.trans (congrArg some (by kernel_rfl))⟩
  f22 := ⟨Try.f92.name, by decide, Try.func92.trans (congrArg some (by kernel_rfl))⟩
  f23 := ⟨Try.f93.name, by decide, Try.func93.trans (congrArg some (by kernel_rfl))⟩
  f24 := ⟨Try.f94.name, by decide, Try.func94.trans (congrArg some (by kernel_rfl))⟩
  f25 := ⟨Try.f95.name, by decide, Try.func95.trans (congrArg some (by kernel_rfl))⟩
  f26 := ⟨Try.f96.name, by decide, Try.func96.trans (congrArg some (by kernel_rfl))⟩
  f27 := ⟨Try.f97.name, by decide, Try.func97.trans (congrArg some (by kernel_rfl))⟩
  f28 := Try.func98.trans (congrArg some (by kernel_rfl))
  f29 := Try.func99.trans (congrArg some (by kernel_rfl))
  f46 := ⟨Try.f107.name, by decide, Try.func107.trans (congrArg some (by kernel_rfl))⟩
  f47 := Try.func108.trans (congrArg some (by kernel_rfl))
  f48 := Try.func109.trans (congrArg some (by kernel_rfl))
  f49 := ⟨Try.f110.name, by decide, Try.func110.trans (congrArg some (by kernel_rfl))⟩
  f50 := ⟨Try.f111.name, by decide, Try.func111.trans (congrArg some (by kernel_rfl))⟩
  f57 := ⟨Try.f118.name, by decide, Try.func118.trans (congrArg some (by kernel_rfl))⟩
  t0 := Try.underlying0
  a0 := Try.isAgg0
  z0 := Try.sizeOf0
  v0 := Try.zeroValue0
  t3 := Try.underlying3
  a3 := Try.isAgg3
  z3 := Try.sizeOf3
  v3 := Try.zeroValue3
  t4 := Try.underlying4
  a4 := Try.isAgg4
  z4 := Try.sizeOf4
  v4 := Try.zeroValue4
  t5 := Try.underlying5
  a5 := Try.isAgg5
  z5 := Try.sizeOf5
  v5 := Try.zeroValue5
  t9 := Try.underlying9
  a9 := Try.isAgg9
  z9 := Try.sizeOf9
  v9 := Try.zeroValue9
  t22 := Try.underlying82
  a22 := Try.isAgg82
  z22 := Try.sizeOf82
  v22 := Try.zeroValue82
  t25 := Try.underlying87
  a25 := Try.isAgg87
  z25 := Try.sizeOf87
  v25 := Try.zeroValue87
  t39 := Try.underlying109
  a39 := Try.isAgg109
  z39 := Try.sizeOf109
  v39 := Try.zeroValue109
  t45 := Try.underlying122
  a45 := Try.isAgg122
  z45 := Try.sizeOf122
  v45 := Try.zeroValue122
  t46 := Try.underlying123
  a46 := Try.isAgg123
  z46 := Try.sizeOf123
  v46 := Try.zeroValue123
  t50 := Try.underlying127
  a50 := Try.isAgg127
  z50 := Try.sizeOf127
  v50 := Try.zeroValue127
  t53 := Try.underlying130
  a53 := Try.isAgg130
  z53 := Try.sizeOf130
  v53 := Try.zeroValue130
  t55 := Try.underlying113
  a55 := Try.isAgg113
  z55 := Try.sizeOf113
  v55 := Try.zeroValue113
  t66 := Try.underlying135
  a66 := Try.isAgg135
  z66 := Try.sizeOf135
  v66 := Try.zeroValue135
  t70 := Try.underlying139
  a70 := Try.isAgg139
  z70 := Try.sizeOf139
  v70 := Try.zeroValue139
  t76 := Try.underlying147
  a76 := Try.isAgg147
  z76 := Try.sizeOf147
  v76 := Try.zeroValue147
  t77 := Try.underlying148
  a77 := Try.isAgg148
  z77 := Try.sizeOf148
  v77 := Try.zeroValue148 }
set_option linter.unusedVariables false
set_option maxHeartbeats 1000000
set_option maxRecDepth 100000
theorem Try.walk_isNaN (x : Int) (w : World) : Calls Try.prog 112 #[.int .i64 x] w fun e w' => e = .returned (.bool false) ∧ w' = w := by
  go_enter Try.func112, Try.ntmps112
  go_wp2
  go_ret
  exact ⟨by simp, rfl⟩
def Try.cz (x y : Int) : Int := if x < y then -1 else if x > y then 1 else 0
theorem Try.walk_cmp (x y : Int) (w : World) : Calls Try.prog 100 #[.int .i64 x, .int .i64 y] w fun e w' => e = .returned (.int .i64 (Try.cz x y)) ∧ w' = w := by
  unfold Try.cz
  go_enter Try.func100, Try.ntmps100
  go_wp2_with (go_at_call 112; refine (Try.walk_isNaN _ _).mono ?_; rintro e w' ⟨rfl, hw⟩; rw [hw])
  all_goals (go_ret; refine ⟨?_, rfl⟩; (repeat' split) <;> first | rfl | (exfalso; omega))
theorem Try.walk_Compare (b1 b2 : Nat) (x1 x2 y1 y2 : Int) (w : World) (h1 : w.cell? ⟨b1, 0, none⟩ = some (.int .i64 x1)) (h2 : w.cell? ⟨b1, 1, none⟩ = some (.int .i64 x2)) (h3 : w.cell? ⟨b2, 0, none⟩ = some (.int .i64 y1)) (h4 : w.cell? ⟨b2, 1, none⟩ = some (.int .i64 y2)) :
    Calls Try.prog 78 #[.slice (some ⟨b1, 0, none⟩) 2 2, .slice (some ⟨b2, 0, none⟩) 2 2] w fun e w' => e = .returned (.int .i64 (if Try.cz x1 y1 = 0 then Try.cz x2 y2 else Try.cz x1 y1)) ∧ w' = w := by
  have k1 := fun W => Try.walk_cmp x1 y1 W
  have k2 := fun W => Try.walk_cmp x2 y2 W
  generalize Try.cz x1 y1 = c1 at k1 ⊢
  generalize Try.cz x2 y2 = c2 at k2 ⊢
  by_cases hc : c1 = 0
  · subst hc
    rw [if_pos rfl]
    by_cases hd : c2 = 0
    · subst hd
      go_enter Try.func78, Try.ntmps78
      go_wp2
      refine wp_loop_rounds 3 ?_
      rw [rounds_succ]
      go_wp2_with (go_at_call 100; refine (k1 _).mono ?_; rintro e w' ⟨rfl, hw⟩; rw [hw])
      rw [rounds_succ]
      go_wp2_with (go_at_call 100; refine (k2 _).mono ?_; rintro e w' ⟨rfl, hw⟩; rw [hw])
      rw [rounds_succ]
      go_wp2
      go_ret
      exact ⟨rfl, rfl⟩
    · have hb : (c2 != 0) = true := by simpa using hd
      go_enter Try.func78, Try.ntmps78
      go_wp2
      refine wp_loop_rounds 3 ?_
      rw [rounds_succ]
      go_wp2_with (go_at_call 100; refine (k1 _).mono ?_; rintro e w' ⟨rfl, hw⟩; rw [hw])
      rw [rounds_succ]
      go_wp2_with (go_at_call 100; refine (k2 _).mono ?_; rintro e w' ⟨rfl, hw⟩; rw [hw])
      go_ret
      exact ⟨rfl, rfl⟩
  · rw [if_neg hc]
    have hb : (c1 != 0) = true := by simpa using hc
    go_enter Try.func78, Try.ntmps78
    go_wp2
    refine wp_loop_rounds 3 ?_
    rw [rounds_succ]
    go_wp2_with (go_at_call 100; refine (k1 _).mono ?_; rintro e w' ⟨rfl, hw⟩; rw [hw])
    go_ret
    exact ⟨rfl, rfl⟩
def Try.kty : List Go.Ab.TyI := (List.range 85).map fun i => bif i == 3 then ⟨.int .i64, 1, 8, [.pv (.int .i64 0)]⟩ else bif i == 84 then ⟨.arr 2 3, 2, 16, [.pv (.int .i64 0), .pv (.int .i64 0)]⟩ else ⟨.other, 0, 0, []⟩
noncomputable def Try.kcfg : Go.Ab.Cfg := ⟨Try.kty, fun _ => none, fun _ => none⟩
theorem Try.ktys : Go.Ab.tysB Try.prog Try.kcfg = true := by kernel_rfl
theorem Try.keyEq0 [GL : Go.Ab.Gl] (x1 x2 y1 y2 : Int) (w : World) : (Op.equalIn 10000 84 (.agg #[.int .i64 x1, .int .i64 x2]) (.agg #[.int .i64 y1, .int .i64 y2])).run Try.prog w = .ok (x1 == y1 && x2 == y2) w := by
  have hv : ∀ a b : Int, Go.Ab.VP (fun _ _ => none) (.agg #[.int .i64 a, .int .i64 b]) (.agg [.int .i64 a, .int .i64 b]) := fun a b =>
    .agg _ _ rfl (fun v hv => by simp at hv; rcases hv with rfl | rfl <;> rfl) (fun j v p hv hp => by
      match j with
      | 0 => simp at hv hp; subst hv; subst hp; exact .int _ _
      | 1 => simp at hv hp; subst hv; subst hp; exact .int _ _
      | j + 2 => simp at hp)
  refine Go.Ab.eqP_sound (Go.Ab.tysB_ok Try.ktys) 6 10000 84 _ _ _ _ _ (by omega) (hv x1 x2) (hv y1 y2) ?_
  show (bif (x1 == y1) then (bif (x2 == y2) then some true else some false) else some false) = _
  cases x1 == y1 <;> cases x2 == y2 <;> rfl
theorem Try.keyEq (x1 x2 y1 y2 : Int) (w : World) : (Op.equalIn 10000 84 (.agg #[.int .i64 x1, .int .i64 x2]) (.agg #[.int .i64 y1, .int .i64 y2])).run Try.prog w = .ok (x1 == y1 && x2 == y2) w := Try.keyEq0 (GL := Go.Ab.Gl.triv) x1 x2 y1 y2 w
theorem Try.walk_compare (x1 x2 y1 y2 : Int) (W : World) :
    Calls Try.prog 56 #[.agg #[.int .i64 x1, .int .i64 x2], .agg #[.int .i64 y1, .int .i64 y2]] W fun e w' => e = .returned (.int .i64 (if (x1 == y1 && x2 == y2) = true then 0 else if Try.cz x1 y1 = 0 then Try.cz x2 y2 else Try.cz x1 y1)) ∧ ∃ q os', w' = grow (W.drewN q) os' := by
  have he := fun w => Try.keyEq x1 x2 y1 y2 w
  generalize (x1 == y1 && x2 == y2) = b at he ⊢
  have hc := fun b1 b2 w h1 h2 h3 h4 => Try.walk_Compare b1 b2 x1 x2 y1 y2 w h1 h2 h3 h4
  generalize (if Try.cz x1 y1 = 0 then Try.cz x2 y2 else Try.cz x1 y1) = c at hc ⊢
  cases b with
  | true =>
    go_enter Try.func56, Try.ntmps56
    go_wp2
    all_goals (go_ret; exact ⟨by simp, 0, _, by rw [alloc_eq_grow, alloc_eq_grow, grow_grow]; rfl⟩)
  | false =>
    go_enter Try.func56, Try.ntmps56
    go_wp2
    have s1 : ∀ o1 o2 : Obj, ((W.alloc o1).alloc o2).drew.heap[W.heap.size]? = some o1 := fun o1 o2 => by
      show ((W.heap.push o1).push o2)[W.heap.size]? = _
      simp [Array.getElem?_push]
    have s2 : ∀ o1 o2 : Obj, ((W.alloc o1).alloc o2).drew.heap[W.heap.size + 1]? = some o2 := fun o1 o2 => by
      show ((W.heap.push o1).push o2)[W.heap.size + 1]? = _
      rw [Array.getElem?_push]; simp
    all_goals (go_region_with (go_at_call 78; refine (hc W.heap.size (W.heap.size + 1) _ (by unfold World.cell?; simp only [s1]; rfl) (by unfold World.cell?; simp only [s1]; rfl) (by unfold World.cell?; simp only [s2]; rfl) (by unfold World.cell?; simp only [s2]; rfl)).mono ?_; rintro e w' ⟨rfl, hw⟩; rw [hw]))
    all_goals (go_wp2; go_ret; exact ⟨by simp, 1, _, by show ((W.drew).alloc _).alloc _ = _; rw [alloc_eq_grow, alloc_eq_grow, grow_grow]; rfl⟩)
theorem Try.keyCmp (x y : Int × Int) : (if (x.1 == y.1 && x.2 == y.2) = true then 0 else if Try.cz x.1 y.1 = 0 then Try.cz x.2 y.2 else Try.cz x.1 y.1) = Go.Ab.cmpK x y := by
  unfold Try.cz Go.Ab.cmpK
  by_cases h1 : x.1 = y.1
  · by_cases h2 : x.2 = y.2
    · simp [h1, h2]
    · simp [h1, h2]
  · rcases Int.lt_or_gt_of_ne h1 with h | h
    · simp [h1, h]
    · simp [h1, h, show ¬ x.1 < y.1 by omega]
theorem Try.keyLt (x y : Int × Int) : ltOf Go.Ab.cmpK x y = true ↔ x.1 < y.1 ∨ (x.1 = y.1 ∧ x.2 < y.2) := by
  unfold ltOf Go.Ab.cmpK
  rw [decide_eq_true_eq]
  split
  · constructor <;> intro <;> omega
  · split
    · constructor <;> intro <;> omega
    · split
      · constructor <;> intro <;> omega
      · split <;> constructor <;> intro <;> omega
theorem Try.keySwo : SWO (ltOf Go.Ab.cmpK) where
  irrefl x := by rw [Bool.eq_false_iff]; intro h; rw [Try.keyLt] at h; omega
  trans x y z h1 h2 := by rw [Try.keyLt] at *; omega
  ntrans x y z h1 h2 := by rw [Bool.eq_false_iff] at *; intro h; simp only [ne_eq, Try.keyLt] at *; omega
theorem Try.keyTot (x y : Int × Int) (h1 : ltOf Go.Ab.cmpK x y = false) (h2 : ltOf Go.Ab.cmpK y x = false) : x = y := by
  rw [Bool.eq_false_iff] at h1 h2
  simp only [ne_eq, Try.keyLt] at h1 h2
  obtain ⟨a, b⟩ := x
  obtain ⟨c, d⟩ := y
  simp only [Prod.mk.injEq] at *
  omega
theorem Try.keySort : Go.Ab.SortKC Try.prog 55 56 :=
  ⟨⟨Try.f55, Try.func55, by kernel_rfl, by kernel_rfl⟩, fun blk off cap d w h1 h2 h3 => by
    have eg : ∀ args w, (callFunc 56 args).run Try.prog w = .ok (.enter 56 args) w := enters_of Try.func56 (by kernel_rfl) rfl
    have hc : CmpLays Try.prog 56 #[] Go.Ab.encK 2 Go.Ab.cmpK blk off d.size w := fun m os dk _ x y => by
      rw [← Try.keyCmp x y]; exact Try.walk_compare x.1 x.2 y.1 y.2 _
    rw [Go.Ab.sortKeys_eq]
    exact AnyQ.slices_SortFunc_total Try.sortK 2 Try.isAgg84 Try.sizeOf84 Go.Ab.encK (fun _ => rfl) (fun x v hv => by simp [Go.Ab.encK] at hv; rcases hv with rfl | rfl <;> rfl) Go.Ab.cmpK Try.keySwo 56 #[] blk off cap d w eg hc h1 h2 h3 Try.keyTot,
    fun p cap fv w => AnyF.slices_SortFunc_none Try.sortK p cap fv w⟩
end Go.Proofs

namespace Go.Cf
open Go Go.Ab Go.Proofs
set_option maxRecDepth 100000
def ty : List TyI := [⟨.other, 1, 0, []⟩,
  ⟨.scalar, 1, 8, [.pv .nilfn]⟩,
  ⟨(.int .i64), 1, 8, [.pv (.int .i64 0)]⟩,
  ⟨(.int .i64), 1, 8, [.pv (.int .i64 0)]⟩,
  ⟨.bool, 1, 1, [.pv (.bool false)]⟩,
  ⟨(.int .u8), 1, 1, [.pv (.int .u8 0)]⟩,
  ⟨(.int .u8), 1, 1, [.pv (.int .u8 0)]⟩,
  ⟨(.struct [(2, 0), (3, 1), (4, 2), (6, 3)]), 4, 24, [.pv (.int .i64 0), .pv (.int .i64 0), .pv (.bool false), .pv (.int .u8 0)]⟩,
  ⟨(.struct [(2, 0), (3, 1), (4, 2), (6, 3)]), 4, 24, [.pv (.int .i64 0), .pv (.int .i64 0), .pv (.bool false), .pv (.int .u8 0)]⟩,
  ⟨.str, 1, 16, [.pv (.str ⟨#[]⟩)]⟩,
  ⟨.str, 1, 16, [.pv (.str ⟨#[]⟩)]⟩,
  ⟨.str, 1, 16, [.pv (.str ⟨#[]⟩)]⟩,
  ⟨(.int .u64), 1, 8, [.pv (.int .u64 0)]⟩,
  ⟨.other, 2, 24, []⟩,
  ⟨.other, 2, 24, []⟩,
  ⟨.scalar, 1, 8, [.pv (.con (.pointer none))]⟩,
  ⟨.scalar, 1, 8, [.pv (.con (.pointer none))]⟩,
  ⟨.scalar, 1, 8, [.pv (.con (.pointer none))]⟩,
  ⟨.other, 1, 8, []⟩,
  ⟨.other, 1, 8, []⟩,
  ⟨.scalar, 1, 16, [.pv (.con .nilIface)]⟩,
  ⟨(.int .i32), 1, 4, [.pv (.int .i32 0)]⟩,
  ⟨(.slice 63), 1, 24, [.nil 3]⟩,
  ⟨(.struct [(22, 0)]), 1, 24, [.nil 3]⟩,
  ⟨(.struct [(22, 0)]), 1, 24, [.nil 3]⟩,
  ⟨(.slice 31), 1, 24, [.nil 0]⟩,
  ⟨(.struct [(25, 0)]), 1, 24, [.nil 0]⟩,
  ⟨(.struct [(25, 0)]), 1, 24, [.nil 0]⟩,
  ⟨.scalar, 1, 8, [.pv .nilfn]⟩,
  ⟨.scalar, 1, 8, [.pv .nilfn]⟩,
  ⟨.scalar, 1, 8, [.pv .nilfn]⟩,
  ⟨(.slice 32), 1, 24, [.nil 0]⟩,
  ⟨(.slice 34), 1, 24, [.nil 3]⟩,
  ⟨(.struct [(3, 0), (3, 1)]), 2, 16, [.pv (.int .i64 0), .pv (.int .i64 0)]⟩,
  ⟨(.struct [(3, 0), (3, 1)]), 2, 16, [.pv (.int .i64 0), .pv (.int .i64 0)]⟩,
  ⟨.scalar, 1, 8, [.pv .nilfn]⟩,
  ⟨.scalar, 1, 8, [.pv .nilfn]⟩,
  ⟨.scalar, 1, 8, [.pv .nilfn]⟩,
  ⟨.other, 1, 0, []⟩,
  ⟨.scalar, 1, 8, [.pv .nilfn]⟩,
  ⟨.scalar, 1, 8, [.pv .nilfn]⟩,
  ⟨(.slice 3), 1, 24, [.nil 0]⟩,
  ⟨(.struct [(41, 0), (31, 1)]), 2, 48, [.nil 0, .nil 0]⟩,
  ⟨(.struct [(41, 0), (31, 1)]), 2, 48, [.nil 0, .nil 0]⟩,
  ⟨.other, 1, 0, []⟩,
  ⟨.scalar, 1, 8, [.pv .nilfn]⟩,
  ⟨.other, 1, 0, []⟩,
  ⟨.scalar, 1, 8, [.pv .nilfn]⟩,
  ⟨.scalar, 1, 8, [.pv .nilfn]⟩,
  ⟨.scalar, 1, 8, [.pv .nilfn]⟩,
  ⟨.scalar, 1, 8, [.pv .nilfn]⟩,
  ⟨.scalar, 1, 8, [.pv .nilfn]⟩,
  ⟨.scalar, 1, 8, [.pv .nilfn]⟩,
  ⟨.scalar, 1, 8, [.pv .nilfn]⟩,
  ⟨.scalar, 1, 8, [.pv .nilfn]⟩,
  ⟨.scalar, 1, 8, [.pv .nilfn]⟩,
  ⟨.scalar, 1, 8, [.pv .nilfn]⟩,
  ⟨.scalar, 1, 8, [.pv .nilfn]⟩,
  ⟨.scalar, 1, 8, [.pv .nilfn]⟩,
  ⟨.other, 1, 0, []⟩,
  ⟨.scalar, 1, 8, [.pv .nilfn]⟩,
  ⟨.scalar, 1, 8, [.pv .nilfn]⟩,
  ⟨(.struct [(3, 0), (3, 1)]), 2, 16, [.pv (.int .i64 0), .pv (.int .i64 0)]⟩,
  ⟨(.struct [(3, 0), (3, 1)]), 2, 16, [.pv (.int .i64 0), .pv (.int .i64 0)]⟩,
  ⟨.scalar, 1, 8, [.pv .nilfn]⟩,
  ⟨.scalar, 1, 8, [.pv .nilfn]⟩,
  ⟨.scalar, 1, 8, [.pv .nilfn]⟩,
  ⟨.scalar, 1, 8, [.pv .nilfn]⟩,
  ⟨.scalar, 1, 8, [.pv .nilfn]⟩,
  ⟨.scalar, 1, 8, [.pv .nilfn]⟩,
  ⟨.scalar, 1, 8, [.pv .nilfn]⟩,
  ⟨.scalar, 1, 8, [.pv .nilfn]⟩,
  ⟨.scalar, 1, 8, [.pv .nilfn]⟩,
  ⟨.scalar, 1, 8, [.pv .nilfn]⟩,
  ⟨(.arr 16 4), 16, 16, [.pv (.bool false), .pv (.bool false), .pv (.bool false), .pv (.bool false), .pv (.bool false), .pv (.bool false), .pv (.bool false), .pv (.bool false), .pv (.bool false), .pv (.bool false), .pv (.bool false), .pv (.bool false), .pv (.bool false), .pv (.bool false), .pv (.bool false), .pv (.bool false)]⟩,
  ⟨.scalar, 1, 8, [.pv .nilfn]⟩,
  ⟨.scalar, 1, 8, [.pv .nilfn]⟩,
  ⟨.scalar, 1, 8, [.pv .nilfn]⟩,
  ⟨.scalar, 1, 8, [.pv .nilfn]⟩,
  ⟨.scalar, 1, 8, [.pv .nilfn]⟩,
  ⟨.scalar, 1, 8, [.pv .nilfn]⟩,
  ⟨(.map 84 31), 1, 8, [.pv (.con (.map none))]⟩,
  ⟨(.slice 84), 1, 24, [.nil 3]⟩,
  ⟨(.arr 2 3), 2, 16, [.pv (.int .i64 0), .pv (.int .i64 0)]⟩,
  ⟨(.arr 2 3), 2, 16, [.pv (.int .i64 0), .pv (.int .i64 0)]⟩,
  ⟨.scalar, 1, 8, [.pv .nilfn]⟩,
  ⟨.scalar, 1, 8, [.pv .nilfn]⟩,
  ⟨.scalar, 1, 8, [.pv .nilfn]⟩,
  ⟨.scalar, 1, 8, [.pv .nilfn]⟩,
  ⟨.scalar, 1, 8, [.pv .nilfn]⟩,
  ⟨.scalar, 1, 8, [.pv .nilfn]⟩,
  ⟨.scalar, 1, 8, [.pv .nilfn]⟩,
  ⟨.scalar, 1, 8, [.pv .nilfn]⟩,
  ⟨.scalar, 1, 8, [.pv .nilfn]⟩,
  ⟨.scalar, 1, 8, [.pv .nilfn]⟩,
  ⟨.scalar, 1, 8, [.pv .nilfn]⟩,
  ⟨(.slice 99), 1, 24, [.nil 6]⟩,
  ⟨.scalar, 1, 8, [.pv .nilfn]⟩,
  ⟨(.struct [(3, 0), (3, 1), (34, 2), (96, 4)]), 5, 56, [.pv (.int .i64 0), .pv (.int .i64 0), .pv (.int .i64 0), .pv (.int .i64 0), .nil 6]⟩,
  ⟨(.struct [(3, 0), (3, 1), (34, 2), (96, 4)]), 5, 56, [.pv (.int .i64 0), .pv (.int .i64 0), .pv (.int .i64 0), .pv (.int .i64 0), .nil 6]⟩,
  ⟨.scalar, 1, 8, [.pv .nilfn]⟩,
  ⟨.scalar, 1, 8, [.pv .nilfn]⟩,
  ⟨(.slice 41), 1, 24, [.nil 0]⟩,
  ⟨.scalar, 1, 8, [.pv .nilfn]⟩,
  ⟨.scalar, 1, 8, [.pv .nilfn]⟩,
  ⟨.scalar, 1, 8, [.pv .nilfn]⟩,
  ⟨.scalar, 1, 8, [.pv .nilfn]⟩,
  ⟨.scalar, 1, 8, [.pv .nilfn]⟩,
  ⟨.scalar, 1, 8, [.pv .nilfn]⟩,
  ⟨(.int .u64), 1, 8, [.pv (.int .u64 0)]⟩,
  ⟨.scalar, 1, 8, [.pv .nilfn]⟩,
  ⟨.scalar, 1, 8, [.pv .nilfn]⟩,
  ⟨.scalar, 1, 8, [.pv .nilfn]⟩,
  ⟨(.int .u64), 1, 8, [.pv (.int .u64 0)]⟩,
  ⟨.other, 1, 0, []⟩,
  ⟨.scalar, 1, 8, [.pv .nilfn]⟩,
  ⟨.scalar, 1, 8, [.pv .nilfn]⟩,
  ⟨.scalar, 1, 8, [.pv .nilfn]⟩,
  ⟨.scalar, 1, 8, [.pv .nilfn]⟩,
  ⟨.scalar, 1, 8, [.pv .nilfn]⟩,
  ⟨.scalar, 1, 8, [.pv .nilfn]⟩,
  ⟨.scalar, 1, 8, [.pv .nilfn]⟩,
  ⟨(.int .i64), 1, 8, [.pv (.int .i64 0)]⟩,
  ⟨.other, 1, 0, []⟩,
  ⟨.scalar, 1, 8, [.pv .nilfn]⟩,
  ⟨.scalar, 1, 8, [.pv .nilfn]⟩,
  ⟨.scalar, 1, 8, [.pv .nilfn]⟩,
  ⟨.other, 1, 0, []⟩,
  ⟨.scalar, 1, 8, [.pv .nilfn]⟩,
  ⟨.scalar, 1, 8, [.pv .nilfn]⟩,
  ⟨(.int .u32), 1, 4, [.pv (.int .u32 0)]⟩,
  ⟨.scalar, 1, 8, [.pv .nilfn]⟩,
  ⟨.scalar, 1, 8, [.pv .nilfn]⟩,
  ⟨.scalar, 1, 8, [.pv .nilfn]⟩,
  ⟨.scalar, 1, 8, [.pv .nilfn]⟩,
  ⟨(.int .u64), 1, 8, [.pv (.int .u64 0)]⟩,
  ⟨.scalar, 1, 8, [.pv .nilfn]⟩,
  ⟨.scalar, 1, 8, [.pv .nilfn]⟩,
  ⟨.scalar, 1, 8, [.pv .nilfn]⟩,
  ⟨.scalar, 1, 8, [.pv (.con (.pointer none))]⟩,
  ⟨.scalar, 1, 8, [.pv .nilfn]⟩,
  ⟨.scalar, 1, 8, [.pv .nilfn]⟩,
  ⟨.scalar, 1, 8, [.pv .nilfn]⟩,
  ⟨.scalar, 1, 8, [.pv .nilfn]⟩,
  ⟨(.struct [(3, 0), (3, 1), (143, 2)]), 3, 24, [.pv (.int .i64 0), .pv (.int .i64 0), .pv .nilfn]⟩,
  ⟨(.struct [(3, 0), (3, 1), (143, 2)]), 3, 24, [.pv (.int .i64 0), .pv (.int .i64 0), .pv .nilfn]⟩,
  ⟨.scalar, 1, 8, [.pv .nilfn]⟩,
  ⟨.scalar, 1, 8, [.pv (.con (.pointer none))]⟩,
  ⟨.other, 1, 0, []⟩,
  ⟨.scalar, 1, 8, [.pv .nilfn]⟩,
  ⟨.scalar, 1, 8, [.pv .nilfn]⟩,
  ⟨.scalar, 1, 8, [.pv .nilfn]⟩,
  ⟨.scalar, 1, 8, [.pv .nilfn]⟩,
  ⟨.scalar, 1, 8, [.pv .nilfn]⟩,
  ⟨.scalar, 1, 8, [.pv .nilfn]⟩,
  ⟨.scalar, 1, 8, [.pv .nilfn]⟩,
  ⟨.other, 1, 0, []⟩,
  ⟨.scalar, 1, 8, [.pv .nilfn]⟩,
  ⟨.scalar, 1, 8, [.pv .nilfn]⟩,
  ⟨.scalar, 1, 8, [.pv .nilfn]⟩,
  ⟨.scalar, 1, 8, [.pv .nilfn]⟩,
  ⟨.other, 4, 40, []⟩,
  ⟨.other, 4, 40, []⟩,
  ⟨.other, 0, 0, []⟩,
  ⟨.other, 0, 0, []⟩,
  ⟨.other, 0, 0, []⟩,
  ⟨.scalar, 1, 8, [.pv .nilfn]⟩,
  ⟨(.int .u8), 1, 1, [.pv (.int .u8 0)]⟩,
  ⟨(.int .u8), 1, 1, [.pv (.int .u8 0)]⟩,
  ⟨.scalar, 1, 8, [.pv .nilfn]⟩,
  ⟨.scalar, 1, 8, [.pv (.con (.pointer none))]⟩,
  ⟨(.int .i32), 1, 4, [.pv (.int .i32 0)]⟩,
  ⟨(.int .i32), 1, 4, [.pv (.int .i32 0)]⟩,
  ⟨.other, 11, 48, []⟩,
  ⟨.other, 11, 48, []⟩,
  ⟨.other, 1, 8, []⟩]
def h7 : Hint := ⟨3, ⟨[], [], [], [], [], []⟩, [(11, [1, 2, 3, 9, 13, 14])], [(11, [1, 3, 6, 9, 13])], [], [(5, [1, 2, 3]), (8, [1, 2, 3, 9, 10, 12, 58]), (15, [1, 2, 3, 9, 13, 14])]⟩
noncomputable def fi7 : FnI := mkFn Try.f7 h7
def h19 : Hint := ⟨2, ⟨[], [], [], [], [], []⟩, [(5, [2, 3, 6])], [(5, [4])], [], [(4, [2, 3])]⟩
noncomputable def fi19 : FnI := mkFn Try.f19 h19
def h25 : Hint := ⟨1, ⟨[3], [], [], [], [], []⟩, [(3, [1, 3, 10, 11, 12]), (11, [1, 6, 31, 32, 33])], [(3, [1, 2]), (11, [1, 2])], [], []⟩
noncomputable def fi25 : FnI := mkFn Try.f25 h25
def h26 : Hint := ⟨2, ⟨[], [], [], [], [], []⟩, [(4, [0, 1, 5])], [(4, [4])], [], []⟩
noncomputable def fi26 : FnI := mkFn Try.f26 h26
def h27 : Hint := ⟨0, ⟨[], [], [], [], [], []⟩, [], [], [], []⟩
noncomputable def fi27 : FnI := mkFn Try.f27 h27
def h28 : Hint := ⟨2, ⟨[], [], [], [], [], []⟩, [(4, [2, 5])], [(4, [4])], [], [(3, [2])]⟩
noncomputable def fi28 : FnI := mkFn Try.f28 h28
def h29 : Hint := ⟨3, ⟨[11, 15, 19, 23, 49, 68, 71, 75, 81, 93, 112, 137, 143, 149], [79], [], [], [79], []⟩, [(8, [1, 2, 3, 6, 8, 10, 11, 51, 52, 53]), (18, [2, 3, 6, 10, 11, 15, 84, 85]), (23, [2, 3, 6, 10, 15, 96, 97, 98]), (27, [2, 3, 6, 10, 15, 18, 19, 96, 97, 98, 113, 114, 115]), (32, [2, 3, 6, 10, 15, 18, 19, 22, 23, 96, 97, 98, 113, 114, 115, 125, 126, 127])], [(8, [1, 2, 3, 6, 10, 11]), (18, [2, 3, 6, 10, 11, 15]), (23, [6, 15]), (27, [2, 3, 6, 10, 15, 19, 96, 97, 98]), (32, [2, 3, 6, 10, 15, 18, 19, 23, 96, 97, 98, 113, 114, 115])], [(15, []), (36, [46]), (38, [38]), (40, [30])], [(5, [1, 2, 3, 6, 8]), (13, [1, 2, 3, 6, 8, 10, 11, 13, 14, 51, 52, 53])]⟩
noncomputable def fi29 : FnI := mkFn Try.f29 h29
def h30 : Hint := ⟨2, ⟨[5], [8, 15, 16], [8], [(8, [(.agg [.pv (.slice 0 []), .view 0 0 none], [.row false 0 0 []])])], [16], []⟩, [], [], [(3, []), (4, [])], []⟩
noncomputable def fi30 : FnI := mkFn Try.f30 h30
def h31 : Hint := ⟨2, ⟨[], [12, 13], [], [], [], []⟩, [], [], [], []⟩
noncomputable def fi31 : FnI := mkFn Try.f31 h31
def h42 : Hint := ⟨2, ⟨[], [], [], [], [], []⟩, [(4, [0, 1, 5])], [(4, [4])], [], []⟩
noncomputable def fi42 : FnI := mkFn Try.f42 h42
def h46 : Hint := ⟨1, ⟨[], [], [], [], [], []⟩, [], [], [], []⟩
noncomputable def fi46 : FnI := mkFn Try.f46 h46
def h47 : Hint := ⟨1, ⟨[], [], [], [], [], []⟩, [], [], [], []⟩
noncomputable def fi47 : FnI := mkFn Try.f47 h47
def h48 : Hint := ⟨2, ⟨[], [], [], [], [], []⟩, [], [], [], []⟩ -- slices.ContainsFunc[[]roadbook/api.Val,roadbook/api.Val]
noncomputable def fi48 : FnI := mkFn Try.f48 h48
def h49 : Hint := ⟨0, ⟨[], [], [], [], [], []⟩, [], [], [], []⟩
noncomputable def fi49 : FnI := mkFn Try.f49 h49
def h50 : Hint := ⟨2, ⟨[], [], [], [], [], []⟩, [(2, [0, 1, 7, 8])], [(2, [4])], [], []⟩ -- slices.Index[[]int,int]
noncomputable def fi50 : FnI := mkFn Try.f50 h50
def h51 : Hint := ⟨2, ⟨[], [], [], [], [], []⟩, [], [], [], []⟩
noncomputable def fi51 : FnI := mkFn Try.f51 h51
def h52 : Hint := ⟨2, ⟨[], [], [], [], [], []⟩, [], [], [], []⟩ -- slices.Contains[[]int,int]
noncomputable def fi52 : FnI := mkFn Try.f52 h52
def h53 : Hint := ⟨2, ⟨[], [], [], [], [], []⟩, [], [], [], []⟩ -- slices.ContainsFunc[[]int,int]
noncomputable def fi53 : FnI := mkFn Try.f53 h53
def h54 : Hint := ⟨2, ⟨[], [], [], [], [], []⟩, [], [], [], [(3, [0, 1, 4]), (6, [4, 5])]⟩
noncomputable def fi54 : FnI := mkFn Try.f54 h54
def h55 : Hint := ⟨2, ⟨[], [13], [], [], [], []⟩, [], [], [], []⟩ -- slices.SortFunc[[]roadbook/bag.key,roadbook/bag.key]
noncomputable def fi55 : FnI := mkFn Try.f55 h55
def h56 : Hint := ⟨2, ⟨[], [], [], [], [], []⟩, [], [], [], []⟩
noncomputable def fi56 : FnI := mkFn Try.f56 h56
def h57 : Hint := ⟨1, ⟨[], [], [], [], [], []⟩, [], [], [], []⟩
noncomputable def fi57 : FnI := mkFn Try.f57 h57
def h58 : Hint := ⟨1, ⟨[], [], [], [], [], []⟩, [(6, [2, 3, 4, 5, 14, 15, 16])], [(6, [2, 3, 4, 5])], [], []⟩
noncomputable def fi58 : FnI := mkFn Try.f58 h58
def h59 : Hint := ⟨2, ⟨[5, 27], [], [], [], [], []⟩, [(3, [1, 4, 5, 13, 14, 15])], [(3, [4, 5])], [(8, [])], []⟩
noncomputable def fi59 : FnI := mkFn Try.f59 h59
def h60 : Hint := ⟨1, ⟨[], [], [], [], [], []⟩, [], [], [], []⟩
noncomputable def fi60 : FnI := mkFn Try.f60 h60
def h61 : Hint := ⟨2, ⟨[], [8], [], [], [], []⟩, [], [], [], []⟩ -- slices.SortStableFunc[[][]roadbook/api.Val,[]roadbook/api.Val]
noncomputable def fi61 : FnI := mkFn Try.f61 h61
def h62 : Hint := ⟨3, ⟨[], [], [], [], [], []⟩, [], [], [], []⟩
noncomputable def fi62 : FnI := mkFn Try.f62 h62
def h63 : Hint := ⟨2, ⟨[], [23], [], [], [], []⟩, [(2, [0, 1, 5])], [(2, [4])], [], []⟩ -- slices.IsSortedFunc[[][]roadbook/api.Val,[]roadbook/api.Val]
noncomputable def fi63 : FnI := mkFn Try.f63 h63
def h64 : Hint := ⟨3, ⟨[], [], [], [], [], []⟩, [], [], [], []⟩
noncomputable def fi64 : FnI := mkFn Try.f64 h64
def h74 : Hint := ⟨2, ⟨[], [], [], [], [], []⟩, [(2, [0, 1, 7, 8])], [(2, [4])], [], []⟩ -- slices.IndexFunc[[]roadbook/api.Val,roadbook/api.Val]
noncomputable def fi74 : FnI := mkFn Try.f74 h74
def h75 : Hint := ⟨2, ⟨[], [], [], [], [], []⟩, [(2, [0, 1, 7, 8])], [(2, [4])], [], []⟩ -- slices.IndexFunc[[]int,int]
noncomputable def fi75 : FnI := mkFn Try.f75 h75
def h78 : Hint := ⟨2, ⟨[], [], [], [], [], []⟩, [(2, [0, 1, 9, 10, 11])], [(2, [0, 1, 4])], [], []⟩ -- slices.Compare[[]int,int]
noncomputable def fi78 : FnI := mkFn Try.f78 h78
def h79 : Hint := ⟨2, ⟨[], [], [], [], [], []⟩, [], [], [], []⟩
noncomputable def fi79 : FnI := mkFn Try.f79 h79
def h80 : Hint := ⟨1, ⟨[], [], [], [], [], []⟩, [], [], [], []⟩
noncomputable def fi80 : FnI := mkFn Try.f80 h80
def h81 : Hint := ⟨0, ⟨[], [], [], [], [], []⟩, [], [], [], []⟩
noncomputable def fi81 : FnI := mkFn Try.f81 h81
def h83 : Hint := ⟨0, ⟨[], [], [], [], [], []⟩, [], [], [], []⟩
noncomputable def fi83 : FnI := mkFn Try.f83 h83
def h84 : Hint := ⟨1, ⟨[5], [], [], [], [], []⟩, [], [], [], []⟩ -- slices.Clone[[]int,int]
noncomputable def fi84 : FnI := mkFn Try.f84 h84
def h85 : Hint := ⟨1, ⟨[5], [], [], [], [], []⟩, [], [], [], []⟩ -- slices.Clone[[]roadbook/api.Val,roadbook/api.Val]
noncomputable def fi85 : FnI := mkFn Try.f85 h85
def h86 : Hint := ⟨3, ⟨[], [18, 27, 43, 60], [], [], [], []⟩, [(2, [0, 1, 2, 6, 7, 8]), (7, [0, 1, 2, 6]), (9, [0, 1, 2, 6, 7, 8])], [(2, [0, 1, 2, 6, 7]), (7, []), (9, [0, 1, 2, 6, 7])], [], []⟩
noncomputable def fi86 : FnI := mkFn Try.f86 h86
def h100 : Hint := ⟨2, ⟨[], [], [], [], [], []⟩, [], [], [], []⟩
noncomputable def fi100 : FnI := mkFn Try.f100 h100
def h101 : Hint := ⟨2, ⟨[], [], [], [], [], []⟩, [], [], [], []⟩
noncomputable def fi101 : FnI := mkFn Try.f101 h101
def h102 : Hint := ⟨1, ⟨[], [], [], [], [], []⟩, [], [], [], []⟩
noncomputable def fi102 : FnI := mkFn Try.f102 h102
def h103 : Hint := ⟨4, ⟨[0], [32], [], [], [], []⟩, [(1, [0, 1, 2, 3, 8]), (4, [0, 1, 2, 3, 8, 9])], [(1, []), (4, [0, 1, 2, 3, 8])], [], [(6, [0, 1, 2, 3, 8, 9])]⟩
noncomputable def fi103 : FnI := mkFn Try.f103 h103
def h104 : Hint := ⟨5, ⟨[0], [49, 101, 169, 191, 205, 219], [], [], [], []⟩, [(3, [0, 1, 4, 10, 11]), (9, [0, 10, 13]), (15, [0, 2, 4, 14, 15]), (21, [0, 14, 17]), (33, [0, 1, 2, 3, 4, 18, 19, 20, 21, 22])], [(3, [0, 1, 10]), (9, []), (15, [0, 2, 14]), (21, []), (33, [0, 1, 2, 3, 4, 18, 19, 20])], [(40, [0]), (42, [0]), (44, [0])], [(32, [0, 1, 2, 3, 4, 18, 19, 20, 21]), (40, [0, 1, 2, 3, 4, 18, 20, 24, 185]), (41, [0, 1, 3, 4, 18, 20, 24]), (42, [0, 1, 3, 4, 18, 20, 24, 199]), (43, [0, 3, 4, 18, 24]), (44, [0, 3, 4, 18, 24, 213])]⟩
noncomputable def fi104 : FnI := mkFn Try.f104 h104
def h112 : Hint := ⟨1, ⟨[], [], [], [], [], []⟩, [], [], [], []⟩
noncomputable def fi112 : FnI := mkFn Try.f112 h112
def h113 : Hint := ⟨5, ⟨[], [31, 46, 57], [], [], [], []⟩, [(2, [0, 2, 4, 10, 11])], [(2, [0, 2, 4, 10])], [], []⟩
noncomputable def fi113 : FnI := mkFn Try.f113 h113
def h119 : Hint := ⟨5, ⟨[0], [], [], [], [], []⟩, [(1, [0, 1, 2, 3, 10])], [(1, [])], [], []⟩
noncomputable def fi119 : FnI := mkFn Try.f119 h119
noncomputable def tab : List (Nat × FnI) := [(7, fi7), (19, fi19), (25, fi25), (26, fi26), (27, fi27), (28, fi28), (29, fi29), (30, fi30), (31, fi31), (42, fi42), (46, fi46), (47, fi47), (48, fi48), (49, fi49), (50, fi50), (51, fi51), (52, fi52), (53, fi53), (54, fi54), (55, fi55), (56, fi56), (57, fi57), (58, fi58), (59, fi59), (60, fi60), (61, fi61), (62, fi62), (63, fi63), (64, fi64), (74, fi74), (75, fi75), (78, fi78), (79, fi79), (80, fi80), (81, fi81), (83, fi83), (84, fi84), (85, fi85), (86, fi86), (100, fi100), (101, fi101), (102, fi102), (103, fi103), (104, fi104), (112, fi112), (113, fi113), (119, fi119)]
noncomputable def etab : List (Nat × ExtF) := [(84, cloneExt 0), (85, cloneExt 3), (55, (sortKExt 56)), (82, add64Ext)]
noncomputable def cfg : Cfg := ⟨ty, lookF tab, lookE etab⟩
instance gl0 : Gl := Gl.triv
theorem clone84 : CloneB cfg fi84 0 := fun call xs => ⟨by kernel_rfl, by kernel_rfl⟩
theorem clone85 : CloneB cfg fi85 3 := fun call xs => ⟨by kernel_rfl, by kernel_rfl⟩
theorem tys : tysB Try.prog cfg = true := by kernel_rfl
theorem fns : AllF Try.prog cfg tab := ⟨fnB_ok Try.func7 (by kernel_rfl), fnB_ok Try.func19 (by kernel_rfl), fnB_ok Try.func25 (by kernel_rfl), fnB_ok Try.func26 (by kernel_rfl), fnB_ok Try.func27 (by kernel_rfl), fnB_ok Try.func28 (by kernel_rfl), fnB_ok Try.func29 (by kernel_rfl), fnB_ok Try.func30 (by kernel_rfl), fnB_ok Try.func31 (by kernel_rfl), fnB_ok Try.func42 (by kernel_rfl), fnB_ok Try.func46 (by kernel_rfl), fnB_ok Try.func47 (by kernel_rfl), fnB_ok Try.func48 (by kernel_rfl), fnB_ok Try.func49 (by kernel_rfl), fnB_ok Try.func50 (by kernel_rfl), fnB_ok Try.func51 (by kernel_rfl), fnB_ok Try.func52 (by kernel_rfl), fnB_ok Try.func53 (by kernel_rfl), fnB_ok Try.func54 (by kernel_rfl), fnB_ok Try.func55 (by kernel_rfl), fnB_ok Try.func56 (by kernel_rfl), fnB_ok Try.func57 (by kernel_rfl), fnB_ok Try.func58 (by kernel_rfl), fnB_ok Try.func59 (by kernel_rfl), fnB_ok Try.func60 (by kernel_rfl), fnB_ok Try.func61 (by kernel_rfl), fnB_ok Try.func62 (by kernel_rfl), fnB_ok Try.func63 (by kernel_rfl), fnB_ok Try.func64 (by kernel_rfl), fnB_ok Try.func74 (by kernel_rfl), fnB_ok Try.func75 (by kernel_rfl), fnB_ok Try.func78 (by kernel_rfl), fnB_ok Try.func79 (by kernel_rfl), fnB_ok Try.func80 (by kernel_rfl), fnB_ok Try.func81 (by kernel_rfl), fnB_ok Try.func83 (by kernel_rfl), fnB_ok Try.func84 (by kernel_rfl), fnB_ok Try.func85 (by kernel_rfl), fnB_ok Try.func86 (by kernel_rfl), fnB_ok Try.func100 (by kernel_rfl), fnB_ok Try.func101 (by kernel_rfl), fnB_ok Try.func102 (by kernel_rfl), fnB_ok Try.func103 (by kernel_rfl), fnB_ok Try.func104 (by kernel_rfl), fnB_ok Try.func112 (by kernel_rfl), fnB_ok Try.func113 (by kernel_rfl), fnB_ok Try.func119 (by kernel_rfl), trivial⟩
theorem exts : ∀ f g, cfg.ext f = some g → ExtOK Try.prog f g := allE_look (tab := etab) ⟨clone_ok (tysB_ok tys) (fnB_ok Try.func84 (by kernel_rfl)) clone84, clone_ok (tysB_ok tys) (fnB_ok Try.func85 (by kernel_rfl)) clone85, sortK_ok Try.keySort, add64_ok (fun x y c h1 h2 h3 h4 w => by rw [run_callFunc_extern Try.func82 (by kernel_rfl) (by kernel_rfl) (by kernel_rfl) (e := Go.add64Entry) (by kernel_rfl), Go.run_add64 x y c h1 h2 h3 h4 w]; rfl), trivial⟩
theorem cfg_ext84 : cfg.ext 84 = some (cloneExt 0) := by kernel_rfl
theorem cfg_ext85 : cfg.ext 85 = some (cloneExt 3) := by kernel_rfl
theorem cfg_ext55 : cfg.ext 55 = some (sortKExt 56) := by kernel_rfl
theorem cfg_ext82 : cfg.ext 82 = some add64Ext := by kernel_rfl
end Go.Cf

namespace Go.Cf
open Go Go.Ab
set_option linter.unusedVariables false
set_option maxRecDepth 100000
def n_main_main : Nat := 0
def n_gosem_cut : Nat := 1
def n_gosem_cut_init : Nat := 2
def n_roadbooklaw04_DataLess : Nat := 3
def n_roadbooklaw04_DataCols : Nat := 4
def n_roadbooklaw04_DataTells : Nat := 5
def n_roadbooklaw04_DataOf : Nat := 6
def n_roadbooklaw03_BagGroups : Nat := 7
def n_roadbooklaw04_awake : Nat := 8
def n_roadbooklaw04_few : Nat := 9
def n_data_Fits : Nat := 10
def n_data_May : Nat := 11
def n_data_Col : Nat := 12
def n_data_Split : Nat := 13
def n_data_Of : Nat := 14
def n_roadbookref04_Of : Nat := 15
def n_data_New : Nat := 16
def n_roadbookref04_New : Nat := 17
def n_roadbookref04_Split : Nat := 18
def n_roadbookref03_Like : Nat := 19
def n_roadbookref04_Same : Nat := 20
def n_roadbookref04_May : Nat := 21
def n_roadbookref04_Fits : Nat := 22
def n_roadbookref04_Col : Nat := 23
def n_bag_Cross : Nat := 24
def n_bag_May : Nat := 25
def n_roadbookref03_Row : Nat := 26
def n_roadbooklaw03_awake : Nat := 27
def n_roadbooklaw03_few : Nat := 28
def n_bag_Group : Nat := 29
def n_bag_Sort : Nat := 30
def n_bag_Sorted : Nat := 31
def n_roadbooklaw04_Two : Nat := 32
def n_data_Fits_1 : Nat := 33
def n_data_row : Nat := 34
def n_slices_ContainsFunc_api_Val_api_Val_3020 : Nat := 35
def n_data_in : Nat := 36
def n_slices_ContainsFunc_api_Def_api_Def : Nat := 37
def n_data_May_1 : Nat := 38
def n_data_one : Nat := 39
def n_bag_Keep : Nat := 40
def n_slices_Clone_api_Def_api_Def : Nat := 41
def n_roadbookref02_Ints : Nat := 42
def n_roadbookref01_May : Nat := 43
def n_slices_Concat_int_int : Nat := 44
def n_slices_Concat_api_Val_api_Val : Nat := 45
def n_bag_May_1 : Nat := 46
def n_val_May : Nat := 47
def n_slices_ContainsFunc_api_Val_api_Val_c5fc : Nat := 48
def n_roadbooklaw03_Three : Nat := 49
def n_slices_Index_int_int : Nat := 50
def n_bag_Group_1 : Nat := 51
def n_slices_Contains_int_int : Nat := 52
def n_slices_ContainsFunc_int_int : Nat := 53
def n_bag_of : Nat := 54
def n_slices_SortFunc_bag_key_bag_key : Nat := 55
def n_bag_compare : Nat := 56
def n_val_Of : Nat := 57
def n_val_Sum : Nat := 58
def n_bag_some : Nat := 59
def n_bag_Sort_1 : Nat := 60
def n_slices_SortStableFunc_api_Val_api_Val : Nat := 61
def n_bag_Sort_2 : Nat := 62
def n_slices_IsSortedFunc_api_Val_api_Val : Nat := 63
def n_bag_Sorted_1 : Nat := 64
def n_data_row_1 : Nat := 65
def n_slices_IndexFunc_api_Val_api_Val_fa1b : Nat := 66
def n_slices_IndexFunc_api_Def_api_Def : Nat := 67
def n_bag_Keep_1 : Nat := 68
def n_slices_ContainsFunc_api_Expr_api_Expr : Nat := 69
def n_bag_Keep_1_1 : Nat := 70
def n_expr_Keeps : Nat := 71
def n_slices_Grow_int_int : Nat := 72
def n_slices_Grow_api_Val_api_Val : Nat := 73
def n_slices_IndexFunc_api_Val_api_Val_b1f6 : Nat := 74
def n_slices_IndexFunc_int_int : Nat := 75
def n_slices_pdqsortCmpFunc_bag_key : Nat := 76
def n_bits_Len : Nat := 77
def n_slices_Compare_int_int : Nat := 78
def n_val_some_api_Val : Nat := 79
def n_val_kind : Nat := 80
def n_val_bad : Nat := 81
def n_bits_Add64 : Nat := 82
def n_val_null : Nat := 83
def n_slices_Clone_int_int : Nat := 84
def n_slices_Clone_api_Val_api_Val : Nat := 85
def n_slices_stableCmpFunc_api_Val : Nat := 86
def n_slices_IndexFunc_api_Expr_api_Expr : Nat := 87
def n_val_True : Nat := 88
def n_expr_Eval : Nat := 89
def n_slices_insertionSortCmpFunc_bag_key : Nat := 90
def n_slices_heapSortCmpFunc_bag_key : Nat := 91
def n_slices_breakPatternsCmpFunc_bag_key : Nat := 92
def n_slices_choosePivotCmpFunc_bag_key : Nat := 93
def n_slices_reverseRangeCmpFunc_bag_key : Nat := 94
def n_slices_partialInsertionSortCmpFunc_bag_key : Nat := 95
def n_slices_partitionEqualCmpFunc_bag_key : Nat := 96
def n_slices_partitionCmpFunc_bag_key : Nat := 97
def n_bits_Len32 : Nat := 98
def n_bits_Len64 : Nat := 99
def n_cmp_Compare_int : Nat := 100
def n_val_kind_1 : Nat := 101
def n_val_fine : Nat := 102
def n_slices_insertionSortCmpFunc_api_Val : Nat := 103
def n_slices_symMergeCmpFunc_api_Val : Nat := 104
def n_expr_May : Nat := 105
def n_expr_eval : Nat := 106
def n_slices_siftDownCmpFunc_bag_key : Nat := 107
def n_slices_nextPowerOfTwo : Nat := 108
def n_slices_xorshift_Next : Nat := 109
def n_slices_medianAdjacentCmpFunc_bag_key : Nat := 110
def n_slices_medianCmpFunc_bag_key : Nat := 111
def n_cmp_isNaN_int : Nat := 112
def n_slices_rotateCmpFunc_api_Val : Nat := 113
def n_expr_each : Nat := 114
def n_expr_May_1 : Nat := 115
def n_expr_part : Nat := 116
def n_expr_ways : Nat := 117
def n_slices_order2CmpFunc_bag_key : Nat := 118
def n_slices_swapRangeCmpFunc_api_Val : Nat := 119
def n_expr_two : Nat := 120
def n_val_Add : Nat := 121
def n_val_Sub : Nat := 122
def n_val_Mul : Nat := 123
def n_val_Div : Nat := 124
def n_val_Eq : Nat := 125
def n_val_Lt : Nat := 126
def n_expr_ways_1 : Nat := 127
def n_val_And : Nat := 128
def n_expr_ways_2 : Nat := 129
def n_val_Or : Nat := 130
def n_expr_ways_3 : Nat := 131
def n_val_Not : Nat := 132
def n_expr_two_1 : Nat := 133
def n_val_reckon : Nat := 134
def n_val_Add_1 : Nat := 135
def n_val_Sub_1 : Nat := 136
def n_val_Mul_1 : Nat := 137
def n_bits_Mul64 : Nat := 138
def n_val_size : Nat := 139
def n_val_Div_1 : Nat := 140
def n_val_odd : Nat := 141
def n_val_of : Nat := 142
def n_val_three : Nat := 143
def n_val_isFalse : Nat := 144
def n_runtime_boundsError_Error : Nat := 145
def n_runtime_boundsError_RuntimeError : Nat := 146
def n_runtime_errorString_Error : Nat := 147
def n_runtime_errorString_RuntimeError : Nat := 148
def n_runtime_plainError_Error : Nat := 149
def n_runtime_plainError_RuntimeError : Nat := 150
def n_runtime_errorAddressString_Error : Nat := 151
def n_runtime_errorAddressString_RuntimeError : Nat := 152
def n_runtime_TypeAssertionError_Error : Nat := 153
def n_runtime_TypeAssertionError_RuntimeError : Nat := 154
def n_runtime_PanicNilError_Error : Nat := 155
def n_runtime_PanicNilError_RuntimeError : Nat := 156
def n_abi_Type_Align : Nat := 157
def n_maps_unhashableTypeError_Error : Nat := 158
def n_maps_unhashableTypeError_RuntimeError : Nat := 159
def n_abi_Kind_String : Nat := 160
def t_int64 : Nat := 2
def t_int : Nat := 3
def t_bool : Nat := 4
def t_uint8 : Nat := 5
def t_abi_BoundsErrorCode : Nat := 6
def t_struct_x_int64_y_int_signed_bool_code_abi_BoundsErrorCode : Nat := 7
def t_runtime_boundsError : Nat := 8
def t_string : Nat := 9
def t_runtime_errorString : Nat := 10
def t_runtime_plainError : Nat := 11
def t_uintptr : Nat := 12
def t_struct_msg_string_addr_uintptr : Nat := 13
def t_runtime_errorAddressString : Nat := 14
def t_runtime_TypeAssertionError : Nat := 15
def t_runtime_PanicNilError : Nat := 16
def t_abi_Type : Nat := 17
def t_struct_typ_abi_Type : Nat := 18
def t_maps_unhashableTypeError : Nat := 19
def t_int32 : Nat := 21
def t_s_api_Def : Nat := 22
def t_struct_T_s_api_Def : Nat := 23
def t_api_Cat : Nat := 24
def t_s_s_s_api_Val : Nat := 25
def t_struct_T_s_s_s_api_Val : Nat := 26
def t_api_Data : Nat := 27
def t_s_s_api_Val : Nat := 31
def t_s_api_Val : Nat := 32
def t_struct_K_int_N_int : Nat := 33
def t_api_Val : Nat := 34
def t_s_int : Nat := 41
def t_struct_Cols_s_int_Rows_s_s_api_Val : Nat := 42
def t_api_Bag : Nat := 43
def t_struct_Cols_int_Rows_int : Nat := 62
def t_api_Def : Nat := 63
def t_a16_bool : Nat := 74
def t_map_bag_key_s_s_api_Val : Nat := 81
def t_s_bag_key : Nat := 82
def t_a2_int : Nat := 83
def t_bag_key : Nat := 84
def t_s_api_Expr : Nat := 96
def t_struct_Op_int_Col_int_V_api_Val_L_s_api_Expr : Nat := 98
def t_api_Expr : Nat := 99
def t_s_s_int : Nat := 102
def t_uint : Nat := 109
def t_uint64 : Nat := 113
def t_slices_sortedHint : Nat := 122
def t_uint32 : Nat := 130
def t_slices_xorshift : Nat := 135
def t_struct_low_int_high_int_of_func_s_api_Val_api_Val : Nat := 144
def t_expr_way : Nat := 145
def t_struct__interface_abi_Type_concrete_abi_Type_asserted_abi_Type_missingMethod_string : Nat := 161
def t_a0__runtime_PanicNilError : Nat := 163
def t_struct___a0__runtime_PanicNilError : Nat := 164
def t_abi_TFlag : Nat := 167
def t_abi_Kind : Nat := 168
def t_abi_NameOff : Nat := 171
def t_abi_TypeOff : Nat := 172
def t_struct_Size__uintptr_PtrBytes_uintptr_Hash_uint32_TFlag_abi_TFlag_Align__uint8_FieldAlign__uint8_Kind__abi_Kind_Equal_func_unsafe_Pointer_unsafe_Pointer_bool_GCData_uint8_Str_abi_NameOff_PtrToThis_abi_TypeOff : Nat := 173
def t_unsafe_Pointer : Nat := 175
theorem exW : ∃ W : Wf, W = evw cfg := ⟨_, rfl⟩
noncomputable def W : Wf := Classical.choose exW
theorem W_eq : W = evw cfg := Classical.choose_spec exW
theorem exT (fi : FnI) {R : Type} (fin : Ex → St → Option R) : ∃ jl : Jn R × Ln R, Tied cfg W fi fin jl.1 jl.2 := ⟨(_, _), tied cfg W fi fin⟩
theorem wq {f : FuncId} {fi : FnI} (he : cfg.ext f = none) (hf : cfg.fn f = some fi) (args : List PV) : wc W f args = body cfg W lpw fi args := by rw [W_eq]; exact evw_eq he hf args
theorem wqO {f : FuncId} {fi : FnI} (he : cfg.ext f = none) (hf : cfg.fn f = some fi) (raw : Bool) (args : List AV) (ow : List Ob) : W f raw args ow = bodyO cfg W lpw fi raw args ow := by rw [W_eq]; exact evw_eqO he hf raw args ow
theorem go {f : FuncId} {fi : FnI} {args : List PV} {r : Option PV} {jn : Jn PV} {ln : Ln PV} (he : cfg.ext f = none) (hf : cfg.fn f = some fi) (h : Tied cfg W fi (fin cfg fi) jn ln) (e : (bif args.length == fi.np then Gf cfg W fi jn ln fi.code [] ⟨args0 0 args, []⟩ (fin cfg fi) else none) = r) : wc W f args = r := (wq he hf args).trans ((h.body args).trans e)
theorem goO {f : FuncId} {fi : FnI} {raw : Bool} {n : Nat} {args : List AV} {ow : List Ob} {r : Option (AV × List Ob)} {jn : Jn (AV × List Ob)} {ln : Ln (AV × List Ob)} (he : cfg.ext f = none) (hf : cfg.fn f = some fi) (h : Tied cfg W fi (finO cfg fi raw n) jn ln) (hn : ow.length = n) (e : (bif args.length == fi.np then Gf cfg W fi jn ln fi.code [] ⟨args0A 0 args, ow⟩ (finO cfg fi raw n) else none) = r) : W f raw args ow = r := (wqO he hf raw args ow).trans ((h.bodyO args ow hn).trans e)
def c_b {R : Type} (p : PV) (K : Bool → Option R) : Option R := (PV.asBool p).bind fun zzx0 => K zzx0
@[simp] theorem c_b_mk (zzx0 : Bool) {R : Type} (K : Bool → Option R) : c_b (PV.bool zzx0) K = K zzx0 := rfl
def c_g_i64_i64 {R : Type} (p : PV) (K : Int → Int → Option R) : Option R := (PV.asAgg p).bind fun c0 => (c0[0]?).bind fun p1 => (PV.asIntK .i64 p1).bind fun zzx2 => (c0[1]?).bind fun p3 => (PV.asIntK .i64 p3).bind fun zzx4 => bif c0.length == 2 then (K zzx2 zzx4) else none
@[simp] theorem c_g_i64_i64_mk (zzx2 : Int) (zzx4 : Int) {R : Type} (K : Int → Int → Option R) : c_g_i64_i64 (PV.agg [(PV.int .i64 zzx2), (PV.int .i64 zzx4)]) K = K zzx2 zzx4 := rfl
def c_g_s0_s0 {R : Type} (p : PV) (K : List PV → List PV → Option R) : Option R := (PV.asAgg p).bind fun c0 => (c0[0]?).bind fun p1 => (PV.asSlice 0 p1).bind fun zzx2 => (c0[1]?).bind fun p3 => (PV.asSlice 0 p3).bind fun zzx4 => bif c0.length == 2 then (K zzx2 zzx4) else none
@[simp] theorem c_g_s0_s0_mk (zzx2 : List PV) (zzx4 : List PV) {R : Type} (K : List PV → List PV → Option R) : c_g_s0_s0 (PV.agg [(PV.slice 0 zzx2), (PV.slice 0 zzx4)]) K = K zzx2 zzx4 := rfl
def c_i64 {R : Type} (p : PV) (K : Int → Option R) : Option R := (PV.asIntK .i64 p).bind fun zzx0 => K zzx0
@[simp] theorem c_i64_mk (zzx0 : Int) {R : Type} (K : Int → Option R) : c_i64 (PV.int .i64 zzx0) K = K zzx0 := rfl
def c_s0 {R : Type} (p : PV) (K : List PV → Option R) : Option R := (PV.asSlice 0 p).bind fun zzx0 => K zzx0
@[simp] theorem c_s0_mk (zzx0 : List PV) {R : Type} (K : List PV → Option R) : c_s0 (PV.slice 0 zzx0) K = K zzx0 := rfl
def c_s3 {R : Type} (p : PV) (K : List PV → Option R) : Option R := (PV.asSlice 3 p).bind fun zzx0 => K zzx0
@[simp] theorem c_s3_mk (zzx0 : List PV) {R : Type} (K : List PV → Option R) : c_s3 (PV.slice 3 zzx0) K = K zzx0 := rfl
def c_u64 {R : Type} (p : PV) (K : Int → Option R) : Option R := (PV.asIntK .u64 p).bind fun zzx0 => K zzx0
@[simp] theorem c_u64_mk (zzx0 : Int) {R : Type} (K : Int → Option R) : c_u64 (PV.int IntKind.u64 zzx0) K = K zzx0 := rfl
def k_5b106d {R : Type} (z : AV × List Ob) (K : PV → Int → Option R) : Option R := (AV.asPv z.1).bind fun q0 => (some q0).bind fun zzx1 => (z.2[0]?).bind fun p2 => (Ob.asVar false 0 p2).bind fun a3 => (AV.asPv a3).bind fun q4 => (PV.asIntK .i64 q4).bind fun zzx5 => bif z.2.length == 1 then (K zzx1 zzx5) else none
@[simp] theorem k_5b106d_mk (zzx1 : PV) (zzx5 : Int) {R : Type} (K : PV → Int → Option R) : k_5b106d ((AV.pv zzx1), [(Ob.var false 0 (AV.pv (PV.int .i64 zzx5)))]) K = K zzx1 zzx5 := rfl
def k_8de13e {R : Type} (z : AV × List Ob) (K : List PV → List PV → Option R) : Option R := (AV.asAggA z.1).bind fun c0 => (c0[0]?).bind fun p1 => (AV.asPv p1).bind fun q2 => (PV.asSlice 0 q2).bind fun zzx3 => (c0[1]?).bind fun p4 => bif AV.isView 0 p4 then (bif c0.length == 2 then ((z.2[0]?).bind fun p5 => (Ob.asRow false 0 0 p5).bind fun zzx6 => bif z.2.length == 1 then (K zzx3 zzx6) else none) else none) else none
@[simp] theorem k_8de13e_mk (zzx3 : List PV) (zzx6 : List PV) {R : Type} (K : List PV → List PV → Option R) : k_8de13e ((AV.agg [(AV.pv (PV.slice 0 zzx3)), (AV.view 0 0 none)]), [(Ob.row false 0 (0 : Nat) zzx6)]) K = K zzx3 zzx6 := rfl
def k_a0f1d3 {R : Type} (z : AV × List Ob) (K : PV → List PV → Option R) : Option R := (AV.asPv z.1).bind fun q0 => (some q0).bind fun zzx1 => (z.2[0]?).bind fun p2 => (Ob.asFix 0 3 p2).bind fun zzx3 => bif z.2.length == 1 then (K zzx1 zzx3) else none
@[simp] theorem k_a0f1d3_mk (zzx1 : PV) (zzx3 : List PV) {R : Type} (K : PV → List PV → Option R) : k_a0f1d3 ((AV.pv zzx1), [(Ob.fix 0 3 zzx3)]) K = K zzx1 zzx3 := rfl
def k_c4d914 {R : Type} (z : AV × List Ob) (K : PV → List PV → Int → Option R) : Option R := (AV.asPv z.1).bind fun q0 => (some q0).bind fun zzx1 => (z.2[0]?).bind fun p2 => (Ob.asFix 0 0 p2).bind fun zzx3 => (z.2[1]?).bind fun p4 => (Ob.asVar false 0 p4).bind fun a5 => (AV.asPv a5).bind fun q6 => (PV.asIntK .i64 q6).bind fun zzx7 => bif z.2.length == 2 then (K zzx1 zzx3 zzx7) else none
@[simp] theorem k_c4d914_mk (zzx1 : PV) (zzx3 : List PV) (zzx7 : Int) {R : Type} (K : PV → List PV → Int → Option R) : k_c4d914 ((AV.pv zzx1), [(Ob.fix 0 0 zzx3), (Ob.var false 0 (AV.pv (PV.int .i64 zzx7)))]) K = K zzx1 zzx3 zzx7 := rfl
theorem x_slices_SortFunc_bag_key_bag_key (ver : Nat) (zs : List (Int × Int)) (hl : zs.length ≤ 4294967296) : W n_slices_SortFunc_bag_key_bag_key false [.fx 0 3, .pv (.fn n_bag_compare [] [])] [.fix ver 3 (zs.map keyP)] = some (.pv (.tup []), [.fix ver 3 ((sortKeys zs).map keyP)]) := by rw [W_eq]; exact sortK_w cfg_ext55 ver zs hl
theorem x_slices_Clone_int_int (xs : List PV) (h : xs.length ≤ 4294967296) : wc W n_slices_Clone_int_int [PV.slice 0 xs] = some (PV.slice 0 xs) := by rw [W_eq]; exact clone_w cfg_ext84 xs h
theorem x_slices_Clone_api_Val_api_Val (xs : List PV) (h : xs.length ≤ 4294967296) : wc W n_slices_Clone_api_Val_api_Val [PV.slice 3 xs] = some (PV.slice 3 xs) := by rw [W_eq]; exact clone_w cfg_ext85 xs h
theorem x_bits_Add64 (x y z : Int) (h1 : 0 ≤ x) (h2 : 0 ≤ y) (h3 : 0 ≤ z) (h4 : z ≤ 1) : wc W n_bits_Add64 [.int .u64 x, .int .u64 y, .int .u64 z] = some (.tup [.int .u64 ((x + y + z) % 18446744073709551616), .int .u64 ((x + y + z) / 18446744073709551616)]) := by rw [W_eq]; exact add64_w cfg_ext82 x y z h1 h2 h3 h4
end Go.Cf

namespace Go.Cf
open Go Go.Ab
set_option linter.unusedVariables false
def I64 (n : Int) : Prop := -9223372036854775808 ≤ n ∧ n ≤ 9223372036854775807
theorem wrap64 {n : Int} (h1 : -9223372036854775808 ≤ n) (h2 : n ≤ 9223372036854775807) : IntKind.wrap .i64 n = n := by
  simp only [IntKind.wrap, IntKind.bits, IntKind.signed]
  simp
  omega
theorem wrapI {n : Int} (h : I64 n) : IntKind.wrap .i64 n = n := wrap64 h.1 h.2
theorem wrap_nat {n : Nat} (h : n ≤ 9223372036854775807) : IntKind.wrap .i64 (n : Int) = n := wrap64 (by omega) (by omega)
theorem wrap_succ {n : Nat} (h : n < 9223372036854775807) : IntKind.wrap .i64 ((n : Int) + 1) = ((n + 1 : Nat) : Int) := by rw [wrap64 (by omega) (by omega)]; omega
@[simp] theorem asTup_mk (l : List PV) : PV.asTup (.tup l) = some l := rfl
@[simp] theorem asFn_mk (f : Nat) (a b : List PV) : PV.asFn (.fn f a b) = some (f, a, b) := rfl
@[simp] theorem nat_le (n : Nat) : decide ((0 : Int) ≤ (n : Int)) = true := by simp
theorem wf_i64 {n : Int} (h : (Lit.int .i64 n).wf = true) : I64 n := by
  simp only [Lit.wf, Bool.and_eq_true, decide_eq_true_eq] at h
  exact h
theorem bif_t {α : Type} (a b : α) : (bif true then a else b) = a := rfl
theorem bif_f {α : Type} (a b : α) : (bif false then a else b) = b := rfl
theorem toList_beq (a b : ByteArray) : (a.toList == b.toList) = decide (a = b) := by
  by_cases h : a = b
  · subst h; simp
  · rw [decide_eq_false h]
    simp only [beq_eq_false_iff_ne, ne_eq]
    intro e
    apply h
    have : a.data.toList = b.data.toList := by
      have e1 : ∀ x : ByteArray, x.toList = x.data.toList := fun x => ByteArray.toList_eq x
      rw [← e1, ← e1, e]
    cases a; cases b; simp_all
theorem loop_all {R : Type} (L : Int → Option R) (n : Nat) (p : Nat → Bool) (r s : Option R) (hs : ∀ i : Nat, i < n → L (i : Int) = bif p i then L ((i : Int) + 1) else r) (he : L (n : Int) = s) :
    L 0 = bif (List.range n).all p then s else r := by
  have : ∀ k i : Nat, i + k = n → L (i : Int) = bif (List.range' i k).all p then s else r := by
    intro k
    induction k with
    | zero => intro i h; simp at h; subst h; simpa using he
    | succ k ih =>
      intro i h
      rw [hs i (by omega), show ((i : Int) + 1) = ((i + 1 : Nat) : Int) by omega, ih (i + 1) (by omega), List.range'_succ, List.all_cons]
      cases p i <;> simp
  have h0 := this n 0 (by omega)
  rw [List.range_eq_range']
  exact h0
theorem all_get {α : Type} (l : List α) (q : α → Bool) : ((List.range l.length).all fun i => (l[i]?).all q) = l.all q := by
  rw [Bool.eq_iff_iff, List.all_eq_true, List.all_eq_true]
  constructor
  · intro h x hx
    obtain ⟨i, hi, rfl⟩ := List.mem_iff_getElem.1 hx
    have := h i (by simpa using hi)
    simpa [List.getElem?_eq_getElem hi] using this
  · intro h i hi
    have hi' : i < l.length := by simpa using hi
    simpa [List.getElem?_eq_getElem hi'] using h _ (List.getElem_mem hi')
theorem lt_len {i n : Nat} (h : i < n) : decide ((i : Int) < (n : Int)) = true := by simpa using h
theorem ge_len {n : Nat} : decide ((n : Int) < (n : Int)) = false := by simp
theorem bne_t {α : Type} [BEq α] [LawfulBEq α] {a b : α} (h : a ≠ b) : (a != b) = true := by simpa using h
theorem bne_f {α : Type} [BEq α] [LawfulBEq α] {a b : α} (h : a = b) : (a != b) = false := by simpa using h
theorem beq_t {α : Type} [BEq α] [LawfulBEq α] {a b : α} (h : a = b) : (a == b) = true := by simpa using h
theorem beq_f {α : Type} [BEq α] [LawfulBEq α] {a b : α} (h : a ≠ b) : (a == b) = false := by simpa using h
theorem all_eq {α : Type} [DecidableEq α] (a b : List α) (e : a.length = b.length) : ((List.range a.length).all fun i => decide (a[i]? = b[i]?)) = decide (a = b) := by
  by_cases hab : a = b
  · subst hab; simp
  · rw [decide_eq_false hab, Bool.eq_false_iff]
    intro hall
    apply hab
    rw [List.all_eq_true] at hall
    apply List.ext_getElem?
    intro i
    by_cases hi : i < a.length
    · simpa using hall i (by simpa using hi)
    · rw [List.getElem?_eq_none (by omega), List.getElem?_eq_none (by omega)]
end Go.Cf
