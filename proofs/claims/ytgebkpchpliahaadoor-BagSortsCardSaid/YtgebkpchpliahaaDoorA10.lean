/- Part 11 of the proof: an abstract machine that runs the program's code over plain values, its soundness, and what the functions tell of plain values. Conditions: those in each theorem. -/
import Derived.Test.YtgebkpchpliahaaDoorA9
import Derived.Shelf.Bits.Mul64
import Derived.Shelf.Small.Bits
import Derived.Laws.Externs
import Derived.Shelf.Strconv.Itoa3
import Derived.Shelf.Strings.Builder2
import Derived.Test.YtgebkpchpliahaaDoorProg
set_option linter.unusedSectionVars false
namespace Go.Ab
open Go.RowKit (Below)
set_option linter.unusedVariables false
set_option linter.unusedSimpArgs false
set_option linter.unusedSectionVars false
variable [GL : Gl]
def mul64G (args : List AV) (ow : List Ob) : Option (AV × List Ob) :=
  match args, ow with
  | [.pv (.int .u64 x), .pv (.int .u64 y)], [] => bif decide (0 ≤ x) && decide (x < 18446744073709551616) && decide (0 ≤ y) && decide (y < 18446744073709551616) then
      some (.pv (.tup [.int .u64 ((x.toNat * y.toNat / 18446744073709551616 : Nat) : Int), .int .u64 ((x.toNat * y.toNat % 18446744073709551616 : Nat) : Int)]), []) else none
  | _, _ => none
def mul64Ext : ExtF := ⟨fun _ raw a ow => bif raw then none else mul64G a ow, fun _ _ _ _ _ _ _ h => h⟩
structure Mul64C (P : Program) (f : FuncId) : Prop where
  fn : HasFn P f
  run : ∀ (x y : Nat), x < 18446744073709551616 → y < 18446744073709551616 → ∀ w : World,
    Calls P f #[.int .u64 x, .int .u64 y] w fun e w' => e = .returned (.tuple #[.int .u64 ((x * y / 18446744073709551616 : Nat) : Int), .int .u64 ((x * y % 18446744073709551616 : Nat) : Int)]) ∧ w' = w
theorem mul64_ok {P : Program} {f : FuncId} (hC : Mul64C P f) : ExtOK P f mul64Ext := by
  intro call hcall raw args ow r ow' h
  cases raw with
  | true => simp [mul64Ext] at h
  | false =>
  simp only [mul64Ext, cond_false, mul64G] at h
  split at h
  · rename_i x y
    obtain ⟨hc, h2⟩ := bif_some h
    clear h
    simp only [Bool.and_eq_true, decide_eq_true_eq] at hc
    simp only [Option.some.injEq, Prod.mk.injEq] at h2
    obtain ⟨rfl, rfl⟩ := h2
    refine Valid.of hC.fn fun S L w vs inv hvs => ?_
    obtain ⟨hlen, hv⟩ := hvs
    match vs, hlen, hv with
    | [v, u], _, hv =>
      have hv0 : VP S v (.int .u64 x) := hv 0 v _ rfl rfl
      have hu0 : VP S u (.int .u64 y) := hv 1 u _ rfl rfl
      cases hv0; cases hu0
      obtain ⟨a, rfl⟩ : ∃ m : Nat, x = m := ⟨x.toNat, by omega⟩
      obtain ⟨b, rfl⟩ : ∃ m : Nat, y = m := ⟨y.toNat, by omega⟩
      refine (hC.run a b (by omega) (by omega) w).mono ?_
      rintro e w' ⟨rfl, rfl⟩
      refine ⟨_, S, L, rfl, inv, VP.tup _ _ rfl (fun j v p hv hp => ?_)⟩
      match j, hv, hp with
      | 0, hv, hp => simp at hv hp; subst hv; subst hp; exact VP.int _ _
      | 1, hv, hp => simp at hv hp; subst hv; subst hp; exact VP.int _ _
      | (n + 2), hv, hp => simp at hv
  · cases h
theorem mul64_w {c : Cfg} {f : FuncId} (he : c.ext f = some mul64Ext) (x y : Int) (h1 : 0 ≤ x) (h2 : x < 18446744073709551616) (h3 : 0 ≤ y) (h4 : y < 18446744073709551616) :
    wc (evw c) f [.int .u64 x, .int .u64 y] = some (.tup [.int .u64 ((x.toNat * y.toNat / 18446744073709551616 : Nat) : Int), .int .u64 ((x.toNat * y.toNat % 18446744073709551616 : Nat) : Int)]) := by
  unfold wc
  rw [evw_ext he]
  simp [mul64Ext, mul64G, h1, h2, h3, h4, AV.asPv]
def len64G (args : List AV) (ow : List Ob) : Option (AV × List Ob) :=
  match args, ow with
  | [.pv (.int .u64 x)], [] => bif decide (0 ≤ x) && decide (x ≤ 18446744073709551615) then some (.pv (.int .i64 (Lib.bitLen x.toNat)), []) else none
  | _, _ => none
def len64Ext : ExtF := ⟨fun _ raw a ow => bif raw then none else len64G a ow, fun _ _ _ _ _ _ _ h => h⟩
structure Len64C (P : Program) (f : FuncId) : Prop where
  fn : HasFn P f
  run : ∀ (x : Int) (w : World), 0 ≤ x → x ≤ 18446744073709551615 → Calls P f #[.int .u64 x] w fun e w' => e = .returned (.int .i64 (Lib.bitLen x.toNat)) ∧ w' = w
theorem len64_ok {P : Program} {f : FuncId} (hC : Len64C P f) : ExtOK P f len64Ext := by
  intro call hcall raw args ow r ow' h
  cases raw with
  | true => simp [len64Ext] at h
  | false =>
  simp only [len64Ext, cond_false, len64G] at h
  split at h
  · rename_i x
    obtain ⟨hc, h2⟩ := bif_some h
    clear h
    simp only [Bool.and_eq_true, decide_eq_true_eq] at hc
    simp only [Option.some.injEq, Prod.mk.injEq] at h2
    obtain ⟨rfl, rfl⟩ := h2
    refine Valid.of hC.fn fun S L w vs inv hvs => ?_
    obtain ⟨hlen, hv⟩ := hvs
    match vs, hlen, hv with
    | [v], _, hv =>
      have hv0 : VP S v (.int .u64 x) := hv 0 v _ rfl rfl
      cases hv0
      refine (hC.run x w hc.1 hc.2).mono ?_
      rintro e w' ⟨rfl, rfl⟩
      exact ⟨_, S, L, rfl, inv, VP.int _ _⟩
  · cases h
theorem len64_w {c : Cfg} {f : FuncId} (he : c.ext f = some len64Ext) (x : Int) (h1 : 0 ≤ x) (h2 : x ≤ 18446744073709551615) : wc (evw c) f [.int .u64 x] = some (.int .i64 (Lib.bitLen x.toNat)) := by
  unfold wc
  rw [evw_ext he]
  simp [len64Ext, len64G, h1, h2, AV.asPv]
def add64G (args : List AV) (ow : List Ob) : Option (AV × List Ob) :=
  match args, ow with
  | [.pv (.int .u64 x), .pv (.int .u64 y), .pv (.int .u64 c)], [] => bif decide (0 ≤ x) && decide (0 ≤ y) && decide (0 ≤ c) && decide (c ≤ 1) then
      some (.pv (.tup [.int .u64 ((x + y + c) % 18446744073709551616), .int .u64 ((x + y + c) / 18446744073709551616)]), []) else none
  | _, _ => none
def add64Ext : ExtF := ⟨fun _ raw a ow => bif raw then none else add64G a ow, fun _ _ _ _ _ _ _ h => h⟩
def Add64C (P : Program) (f : FuncId) : Prop := ∀ (x y c : Int), 0 ≤ x → 0 ≤ y → 0 ≤ c → c ≤ 1 → ∀ w : World,
  (callFunc f #[.int .u64 x, .int .u64 y, .int .u64 c]).run P w = .ok (.value (.tuple #[.int .u64 ((x + y + c) % 18446744073709551616), .int .u64 ((x + y + c) / 18446744073709551616)])) w
theorem add64_ok {P : Program} {f : FuncId} (hC : Add64C P f) : ExtOK P f add64Ext := by
  intro call hcall raw args ow r ow' h
  cases raw with
  | true => simp [add64Ext] at h
  | false =>
  simp only [add64Ext, cond_false, add64G] at h
  split at h
  · rename_i x y c
    obtain ⟨hc, h2⟩ := bif_some h
    clear h
    simp only [Bool.and_eq_true, decide_eq_true_eq] at hc
    simp only [Option.some.injEq, Prod.mk.injEq] at h2
    obtain ⟨rfl, rfl⟩ := h2
    intro S L w vs inv hvs
    obtain ⟨hlen, hv⟩ := hvs
    match vs, hlen, hv with
    | [v, u, z], _, hv =>
      have hv0 : VP S v (.int .u64 x) := hv 0 v _ rfl rfl
      have hu0 : VP S u (.int .u64 y) := hv 1 u _ rfl rfl
      have hz0 : VP S z (.int .u64 c) := hv 2 z _ rfl rfl
      cases hv0; cases hu0; cases hz0
      show Res P _ ((callFunc f #[.int .u64 x, .int .u64 y, .int .u64 c]).run P w)
      rw [hC x y c hc.1.1.1 hc.1.1.2 hc.1.2 hc.2 w]
      refine ⟨S, L, inv, VP.tup _ _ rfl (fun j v p hv hp => ?_)⟩
      match j, hv, hp with
      | 0, hv, hp => simp at hv hp; subst hv; subst hp; exact VP.int _ _
      | 1, hv, hp => simp at hv hp; subst hv; subst hp; exact VP.int _ _
      | (n + 2), hv, hp => simp at hv
  · cases h
theorem add64_w {c : Cfg} {f : FuncId} (he : c.ext f = some add64Ext) (x y z : Int) (h1 : 0 ≤ x) (h2 : 0 ≤ y) (h3 : 0 ≤ z) (h4 : z ≤ 1) :
    wc (evw c) f [.int .u64 x, .int .u64 y, .int .u64 z] = some (.tup [.int .u64 ((x + y + z) % 18446744073709551616), .int .u64 ((x + y + z) / 18446744073709551616)]) := by
  unfold wc
  rw [evw_ext he]
  simp [add64Ext, add64G, h1, h2, h3, h4, AV.asPv]
end Go.Ab

namespace Go.Ab
open Go.RowKit (Below)
set_option linter.unusedVariables false
set_option linter.unusedSimpArgs false
set_option linter.unusedSectionVars false
@[reducible] def Gl.one (g : Nat) (X : Obj) : Gl := ⟨fun g' X' => g' = g ∧ X' = X⟩
theorem Gl.one_here {g : Nat} {X : Obj} {w : World} (h : w.heap[g]? = some X) : @Gl.here (Gl.one g X) w := fun g' X' ⟨e, e'⟩ => by subst e; subst e'; exact h
section
variable [GL : Gl]
def itoaS (n : Int) : ByteArray := ⟨(Lib.itoa n).toArray⟩
def itoaG (args : List AV) (ow : List Ob) : Option (AV × List Ob) :=
  match args, ow with
  | [.pv (.int .i64 n)], [] => bif decide (-9223372036854775808 ≤ n) && decide (n ≤ 9223372036854775807) then some (.pv (.str (itoaS n)), []) else none
  | _, _ => none
def itoaExt : ExtF := ⟨fun _ raw a ow => bif raw then none else itoaG a ow, fun _ _ _ _ _ _ _ h => h⟩
structure ItoaC (P : Program) (f : FuncId) : Prop where
  fn : HasFn P f
  run : ∀ (n : Int) (w : World), -9223372036854775808 ≤ n → n ≤ 9223372036854775807 → Lib.TabIs P w "internal/strconv.uint64pow10" .u64 Lib.pow10Tab →
    Calls P f #[.int .i64 n] w fun e w' => e = .returned (.string ⟨(Lib.itoa n).toArray⟩) ∧ ∃ k os, w' = Sort.grow (w.drewN k) os
theorem below_grow (w : World) (k : Nat) (os : Array Obj) : Below w.heap.size w (Sort.grow (w.drewN k) os) :=
  ⟨rfl, rfl, rfl, by simp [Sort.grow, World.drewN], fun b hb => by
    show ((w.drewN k).heap ++ os)[b]? = _
    rw [Array.getElem?_append_left (by simpa [World.drewN] using hb)]
    rfl⟩
theorem itoa_ok {P : Program} {f : FuncId} (hC : ItoaC P f) (hG : ∃ g t fr, P.globalNamed "internal/strconv.uint64pow10" = some g ∧ GL.tab g (.cells (Lib.pow10Tab.map fun z => Value.int .u64 z).toArray t fr)) : ExtOK P f itoaExt := by
  intro call hcall raw args ow r ow' h
  cases raw with
  | true => simp [itoaExt] at h
  | false =>
  simp only [itoaExt, cond_false, itoaG] at h
  split at h
  · rename_i n
    obtain ⟨hc, h2⟩ := bif_some h
    clear h
    simp only [Bool.and_eq_true, decide_eq_true_eq] at hc
    simp only [Option.some.injEq, Prod.mk.injEq] at h2
    obtain ⟨rfl, rfl⟩ := h2
    refine Valid.of hC.fn fun S L w vs inv hvs => ?_
    obtain ⟨hlen, hv⟩ := hvs
    match vs, hlen, hv with
    | [v], _, hv =>
      have hv0 : VP S v (.int .i64 n) := hv 0 v _ rfl rfl
      cases hv0
      obtain ⟨g, t, fr, hg, hX⟩ := hG
      have htab : Lib.TabIs P w "internal/strconv.uint64pow10" .u64 Lib.pow10Tab := by
        unfold Lib.TabIs World.var?
        rw [hg]
        simp only [Option.bind_some]
        rw [Gl.ok_here inv.glob inv.below g _ hX]
      refine (hC.run n w hc.1 hc.2 htab).mono ?_
      rintro e w' ⟨rfl, k, os, rfl⟩
      have hB := below_grow w k os
      exact ⟨_, S, L, rfl, inv.grow hB (Pr.le_refl S) (fun _ _ _ => rfl) (fun b o v hv => by
        have h1 := inv.prot b o v hv
        rw [memV_congr (hB.block b (memV_lt h1))]; exact h1), VP.str _⟩
  · cases h
theorem itoa_w {c : Cfg} {f : FuncId} (he : c.ext f = some itoaExt) (n : Int) (h1 : -9223372036854775808 ≤ n) (h2 : n ≤ 9223372036854775807) : wc (evw c) f [.int .i64 n] = some (.str (itoaS n)) := by
  unfold wc
  rw [evw_ext he]
  simp [itoaExt, itoaG, h1, h2, AV.asPv]
end
end Go.Ab

namespace Go.Ab
open Go.RowKit (Below)
set_option linter.unusedVariables false
set_option linter.unusedSimpArgs false
set_option linter.unusedSectionVars false
def textL : List (Int × Int) → List UInt8
  | [] => []
  | x :: r => Lib.itoa x.1 ++ [58] ++ Lib.itoa x.2 ++ [59] ++ textL r
theorem textL_app : ∀ (a b : List (Int × Int)), textL (a ++ b) = textL a ++ textL b
  | [], _ => rfl
  | x :: r, b => by simp [textL, textL_app r b]
def textS (xs : List (Int × Int)) : ByteArray := ⟨(textL xs).toArray⟩
def TextAt (w : World) (base : Option Addr) (xs : List (Int × Int)) : Prop :=
  ∀ (i : Nat) (x : Int × Int), xs[i]? = some x → ∃ b o, base = some ⟨b, o, none⟩ ∧ w.cell? ⟨b, o + i * 2, none⟩ = some (.int .i64 x.1) ∧ w.cell? ⟨b, o + i * 2 + 1, none⟩ = some (.int .i64 x.2)
def inI (n : Int) : Bool := decide (-9223372036854775808 ≤ n) && decide (n ≤ 9223372036854775807)
def pairsP : List PV → Option (List (Int × Int))
  | [] => some []
  | .agg [.int .i64 k, .int .i64 n] :: r => bif inI k && inI n then (pairsP r).bind fun l => some ((k, n) :: l) else none
  | _ => none
structure TextC (P : Program) (f : FuncId) : Prop where
  fn : HasFn P f
  run : ∀ (base : Option Addr) (cap : Nat) (xs : List (Int × Int)) (w : World), xs.length ≤ cap → xs.length ≤ 1000000 → (∀ x ∈ xs, (-9223372036854775808 ≤ x.1 ∧ x.1 ≤ 9223372036854775807) ∧ -9223372036854775808 ≤ x.2 ∧ x.2 ≤ 9223372036854775807) →
    TextAt w base xs → Lib.TabIs P w "internal/strconv.uint64pow10" .u64 Lib.pow10Tab → Calls P f #[.slice base xs.length cap] w fun e w' => e = .returned (.string ⟨(textL xs).toArray⟩) ∧ Below w.heap.size w w'
section
variable [GL : Gl]
def textG (args : List AV) (ow : List Ob) : Option (AV × List Ob) :=
  match args, ow with
  | [.pv (.slice 3 xs)], [] => bif decide (xs.length ≤ 1000000) then (pairsP xs).bind fun l => some (.pv (.str (textS l)), []) else none
  | _, _ => none
def textExt : ExtF := ⟨fun _ raw a ow => bif raw then none else textG a ow, fun _ _ _ _ _ _ _ h => h⟩

theorem pairsP_spec {S : Pr} : ∀ {xs : List PV} {l : List (Int × Int)}, pairsP xs = some l → l.length = xs.length ∧ ∀ (i : Nat) (x : Int × Int), l[i]? = some x →
    xs[i]? = some (.agg [.int .i64 x.1, .int .i64 x.2]) ∧ (-9223372036854775808 ≤ x.1 ∧ x.1 ≤ 9223372036854775807) ∧ -9223372036854775808 ≤ x.2 ∧ x.2 ≤ 9223372036854775807
  | [], l, h => by
    have h : some [] = some l := h
    cases h
    exact ⟨rfl, fun i x h => by simp at h⟩
  | p :: r, l, h => by
    unfold pairsP at h
    split at h
    · rename_i e; cases e
    · rename_i k n r' e
      cases e
      obtain ⟨h1, h2⟩ := bif_some h
      obtain ⟨l', h3, h4⟩ := Option.bind_eq_some_iff.1 h2
      cases h4
      simp only [inI, Bool.and_eq_true, decide_eq_true_eq] at h1
      obtain ⟨k1, k2⟩ := pairsP_spec (S := S) h3
      refine ⟨by simp [k1], fun i x hx => ?_⟩
      cases i with
      | zero => simp at hx; subst hx; exact ⟨rfl, h1.1, h1.2⟩
      | succ i => exact k2 i x (by simpa using hx)
    · cases h

theorem text_ok {P : Program} {f : FuncId} (hC : TextC P f) (hG : ∃ g t fr, P.globalNamed "internal/strconv.uint64pow10" = some g ∧ GL.tab g (.cells (Lib.pow10Tab.map fun z => Value.int .u64 z).toArray t fr)) : ExtOK P f textExt := by
  intro call hcall raw args ow r ow' h
  cases raw with
  | true => simp [textExt] at h
  | false =>
  simp only [textExt, cond_false] at h
  unfold textG at h
  split at h
  · rename_i xs
    obtain ⟨hc, h2⟩ := bif_some h
    clear h
    simp only [decide_eq_true_eq] at hc
    obtain ⟨l, hl, h3⟩ := Option.bind_eq_some_iff.1 h2
    simp only [Option.some.injEq, Prod.mk.injEq] at h3
    obtain ⟨rfl, rfl⟩ := h3
    refine Valid.of hC.fn fun S L w vs inv hvs => ?_
    obtain ⟨hlen, hv⟩ := hvs
    match vs, hlen, hv with
    | [v], _, hv =>
      have hv0 : VP S v (.slice 3 xs) := hv 0 v _ rfl rfl
      obtain ⟨hll, hsp⟩ := pairsP_spec (S := S) hl
      cases hv0 with
      | slice base len cap _ _ b o vals hl' hc' hb' hsh hS hV =>
        obtain ⟨g, t, fr, hg, hX⟩ := hG
        have htab : Lib.TabIs P w "internal/strconv.uint64pow10" .u64 Lib.pow10Tab := by
          unfold Lib.TabIs World.var?
          rw [hg]
          simp only [Option.bind_some]
          rw [Gl.ok_here inv.glob inv.below g _ hX]
        have hlen2 : l.length = len := by omega
        subst hlen2
        have hrow : TextAt w base l := fun i x hx => by
          have hi : i < l.length := (List.getElem?_eq_some_iff.1 hx).1
          obtain ⟨hx1, _⟩ := hsp i x hx
          obtain ⟨s0, o0⟩ := hS i 0 hi (by decide)
          obtain ⟨s1, o1⟩ := hS i 1 hi (by decide)
          have v0 := hV i 0 _ (.int .i64 x.1) hx1 rfl
          have v1 := hV i 1 _ (.int .i64 x.2) hx1 rfl
          have c0 := memV_cell (inv.prot _ _ _ s0) o0
          have c1 := memV_cell (inv.prot _ _ _ s1) o1
          rw [vp_int v0] at c0
          rw [vp_int v1] at c1
          exact ⟨b, o, hb' (by omega), c0, c1⟩
        refine (hC.run base cap l w hc' (by omega) (fun x hx => by
          obtain ⟨i, hi, e⟩ := List.getElem_of_mem hx
          exact (hsp i x (by rw [← e]; exact List.getElem?_eq_getElem hi)).2) hrow htab).mono ?_
        rintro e w' ⟨rfl, hB⟩
        exact ⟨_, S, L, rfl, inv.grow hB (Pr.le_refl S) (fun _ _ _ => rfl) (fun b o v hv => by
          have h1 := inv.prot b o v hv
          rw [memV_congr (hB.block b (memV_lt h1))]; exact h1), VP.str _⟩
  · cases h
theorem text_w {c : Cfg} {f : FuncId} (he : c.ext f = some textExt) (xs : List PV) (l : List (Int × Int)) (hp : pairsP xs = some l) (hl : xs.length ≤ 1000000) : wc (evw c) f [.slice 3 xs] = some (.str (textS l)) := by
  unfold wc
  rw [evw_ext he]
  simp [textExt, textG, hp, hl, AV.asPv]
end
end Go.Ab

namespace Go.Proofs
open Go.Shelf
def Tryd.lays169_ren : Go.Shelf.Ren := ⟨fun | 169 => 47 | n => n, fun | 70 => 72 | 9 => 9 | 0 => 0 | 72 => 75 | 37 => 73 | 127 => 98 | 3 => 3 | 5 => 5 | n => n, fun | n => n⟩
theorem Tryd.lays169 : Go.Proofs.Lays.n169 Tryd.prog Tryd.lays169_ren := {
  mixed := by kernel_rfl
  f169 := Tryd.func47.trans (congrArg some (by kernel_rfl))
  t0 := Tryd.underlying0
  a0 := Tryd.isAgg0
  z0 := Tryd.sizeOf0
  v0 := Tryd.zeroValue0
  t3 := Tryd.underlying3
  a3 := Tryd.isAgg3
  z3 := Tryd.sizeOf3
  v3 := Tryd.zeroValue3
  t9 := Tryd.underlying9
  a9 := Tryd.isAgg9
  z9 := Tryd.sizeOf9
  v9 := Tryd.zeroValue9
  t37 := Tryd.underlying73
  a37 := Tryd.isAgg73
  z37 := Tryd.sizeOf73
  v37 := Tryd.zeroValue73
  t70 := Tryd.underlying72
  a70 := Tryd.isAgg72
  z70 := Tryd.sizeOf72
  v70 := Tryd.zeroValue72
  t72 := Tryd.underlying75
  a72 := Tryd.isAgg75
  z72 := Tryd.sizeOf75
  v72 := Tryd.zeroValue75
  t127 := Tryd.underlying98
  a127 := Tryd.isAgg98
  z127 := Tryd.sizeOf98
  v127 := Tryd.zeroValue98 }
theorem Tryd.Builder_Extra_169 : Builder.Extra Tryd.prog Tryd.lays169_ren := {
  sizeBuilder := by kernel_rfl
  liesBuilder := by kernel_rfl
  t5 := Tryd.underlying5
  a5 := Tryd.isAgg5
  z5 := Tryd.sizeOf5
  v5 := Tryd.zeroValue5
  infoByte := by kernel_rfl
  cellsByte := by kernel_rfl
  sizeByte := by kernel_rfl
  neB5 := by decide }
open Go.RowKit in
theorem Tryd.Builder_String_any (B b : Nat) (l : List UInt8) (w : World) (h : Lib.IsBuilder 75 5 B b (Lib.byteCells l) w) (hBw : B ≤ w.heap.size) :
    Calls Tryd.prog 47 #[.pointer (some ⟨b, 0, none⟩)] w fun e w' => e = .returned (.string ⟨l.toArray⟩) ∧ Below B w w' := Any.Builder_String_any Tryd.lays169 Tryd.Builder_Extra_169 B b l w h hBw
def Tryd.lays129_ren : Go.Shelf.Ren := ⟨fun | 129 => 73 | n => n, fun | 53 => 91 | 3 => 3 | 4 => 4 | 46 => 88 | 5 => 5 | 9 => 9 | n => n, fun | n => n⟩
theorem Tryd.lays129 : Go.Proofs.Lays.n129 Tryd.prog Tryd.lays129_ren := {
  mixed := by kernel_rfl
  f129 := Tryd.func73.trans (congrArg some (by kernel_rfl))
  t3 := Tryd.underlying3
  a3 := Tryd.isAgg3
  z3 := Tryd.sizeOf3
  v3 := Tryd.zeroValue3
  t4 := Tryd.underlying4
  a4 := Tryd.isAgg4
  z4 := Tryd.sizeOf4
  v4 := Tryd.zeroValue4
  t5 := Tryd.underlying5
  a5 := Tryd.isAgg5
  z5 := Tryd.sizeOf5
  v5 := Tryd.zeroValue5
  t9 := Tryd.underlying9
  a9 := Tryd.isAgg9
  z9 := Tryd.sizeOf9
  v9 := Tryd.zeroValue9
  t46 := Tryd.underlying88
  a46 := Tryd.isAgg88
  z46 := Tryd.sizeOf88
  v46 := Tryd.zeroValue88
  t53 := Tryd.underlying91
  a53 := Tryd.isAgg91
  z53 := Tryd.sizeOf91
  v53 := Tryd.zeroValue91 }
theorem Tryd.bits_Len64 (x : Int) (w : World) (h0 : 0 ≤ x) (h1 : x ≤ 18446744073709551615) :
    Calls Tryd.prog 73 #[.int .u64 x] w fun e w' => e = .returned (.int .i64 (Lib.bitLen x.toNat)) ∧ w' = w := Any.bits_Len64 Tryd.lays129 x w h0 h1
def Tryd.laysM171_ren : Go.Shelf.Ren := ⟨fun | 171 => 46 | 243 => 63 | 246 => 79 | 283 => 86 | 284 => 87 | 285 => 88 | 286 => 89 | 129 => 73 | 317 => 91 | 318 => 92 | 319 => 93 | 320 => 94 | 337 => 95 | 338 => 96 | n => n, fun | 3 => 3 | 9 => 9 | 2 => 2 | 4 => 4 | 171 => 120 | 0 => 0 | 53 => 91 | 37 => 73 | 5 => 5 | 173 => 122 | 212 => 129 | 51 => 108 | 20 => 20 | 213 => 130 | 46 => 88 | 232 => 131 | 233 => 132 | n => n, fun | 17 => 0 | 18 => 1 | 19 => 2 | n => n⟩
theorem Tryd.laysM171 : Go.Proofs.LaysM.n171 Tryd.prog Tryd.laysM171_ren := {
  mixed := by kernel_rfl
  f129 := Tryd.func73.trans (congrArg some (by kernel_rfl))
  f171 := Tryd.func46.trans (congrArg some (by kernel_rfl))
  f243 := Tryd.func63.trans (congrArg some (by kernel_rfl))
  f246 := Tryd.func79.trans (congrArg some (by kernel_rfl))
  f283 := Tryd.func86.trans (congrArg some (by kernel_rfl))
  f284 := Tryd.func87.trans (congrArg some (by kernel_rfl))
  f285 := Tryd.func88.trans (congrArg some (by kernel_rfl))
  f286 := Tryd.func89.trans (congrArg some (by kernel_rfl))
  f317 := Tryd.func91.trans (congrArg some (by kernel_rfl))
  f318 := Tryd.func92.trans (congrArg some (by kernel_rfl))
  f319 := Tryd.func93.trans (congrArg some (by kernel_rfl))
  f320 := Tryd.func94.trans (congrArg some (by kernel_rfl))
  f337 := Tryd.func95.trans (congrArg some (by kernel_rfl))
  f338 := Tryd.func96.trans (congrArg some (by kernel_rfl))
  t0 := Tryd.underlying0
  a0 := Tryd.isAgg0
  z0 := Tryd.sizeOf0
  v0 := Tryd.zeroValue0
  t2 := Tryd.underlying2
  a2 := Tryd.isAgg2
  z2 := Tryd.sizeOf2
  v2 := Tryd.zeroValue2
  t3 := Tryd.underlying3
  a3 := Tryd.isAgg3
  z3 := Tryd.sizeOf3
  v3 := Tryd.zeroValue3
  t4 := Tryd.underlying4
  a4 := Tryd.isAgg4
  z4 := Tryd.sizeOf4
  v4 := Tryd.zeroValue4
  t5 := Tryd.underlying5
  a5 := Tryd.isAgg5
  z5 := Tryd.sizeOf5
  v5 := Tryd.zeroValue5
  t9 := Tryd.underlying9
  a9 := Tryd.isAgg9
  z9 := Tryd.sizeOf9
  v9 := Tryd.zeroValue9
  t20 := Tryd.underlying20
  a20 := Tryd.isAgg20
  z20 := Tryd.sizeOf20
  v20 := Tryd.zeroValue20
  t37 := Tryd.underlying73
  a37 := Tryd.isAgg73
  z37 := Tryd.sizeOf73
  v37 := Tryd.zeroValue73
  t46 := Tryd.underlying88
  a46 := Tryd.isAgg88
  z46 := Tryd.sizeOf88
  v46 := Tryd.zeroValue88
  t51 := Tryd.underlying108
  a51 := Tryd.isAgg108
  z51 := Tryd.sizeOf108
  v51 := Tryd.zeroValue108
  t53 := Tryd.underlying91
  a53 := Tryd.isAgg91
  z53 := Tryd.sizeOf91
  v53 := Tryd.zeroValue91
  t171 := Tryd.underlying120
  a171 := Tryd.isAgg120
  z171 := Tryd.sizeOf120
  v171 := Tryd.zeroValue120
  t173 := Tryd.underlying122
  a173 := Tryd.isAgg122
  z173 := Tryd.sizeOf122
  v173 := Tryd.zeroValue122
  t212 := Tryd.underlying129
  a212 := Tryd.isAgg129
  z212 := Tryd.sizeOf129
  v212 := Tryd.zeroValue129
  t213 := Tryd.underlying130
  a213 := Tryd.isAgg130
  z213 := Tryd.sizeOf130
  t232 := Tryd.underlying131
  a232 := Tryd.isAgg131
  z232 := Tryd.sizeOf131
  v232 := Tryd.zeroValue131
  t233 := Tryd.underlying132
  a233 := Tryd.isAgg132
  z233 := Tryd.sizeOf132
  v233 := Tryd.zeroValue132
  g17 := by kernel_rfl
  g18 := by kernel_rfl
  g19 := by kernel_rfl
  i0 := by kernel_rfl
  i2 := by kernel_rfl
  i3 := by kernel_rfl
  i4 := by kernel_rfl
  i5 := by kernel_rfl
  i9 := by kernel_rfl
  i20 := by kernel_rfl
  i37 := by kernel_rfl
  i46 := by kernel_rfl
  i51 := by kernel_rfl
  i53 := by kernel_rfl
  i171 := by kernel_rfl
  i173 := by kernel_rfl
  i212 := by kernel_rfl
  i232 := by kernel_rfl
  i233 := by kernel_rfl
  m17 := by kernel_rfl
  m18 := by kernel_rfl
  m19 := by kernel_rfl }
open Go.RowKit Go.Sort Go.Lib in
theorem Tryd.strconv_Itoa (n : Int) (h0 : -9223372036854775808 ≤ n) (h1 : n ≤ 9223372036854775807) (w : World) (htab : Lib.TabIs Tryd.prog w "internal/strconv.uint64pow10" .u64 Lib.pow10Tab) :
    Calls Tryd.prog 46 #[.int .i64 n] w fun e w' => e = .returned (.string ⟨(Lib.itoa n).toArray⟩) ∧ ∃ k os, w' = grow (w.drewN k) os := Any.strconv_Itoa Tryd.laysM171 n h0 h1 w htab
end Go.Proofs
