/- Part 12 of the proof: an abstract machine that runs the program's code over plain values, its soundness, and what the functions tell of plain values. Conditions: those in each theorem. -/
import Derived.Test.YtgebkpchpliahaaGreatDoorA10
import Derived.Shelf.Strconv.Itoa3
import Derived.Shelf.Sort.Plain
import Derived.Shelf.Slices.In.SortNone
import Derived.Shelf.Slices.CompactI
import Derived.Shelf.Bits.Mul64
import Derived.Shelf.Small.Bits
import Derived.Shelf.Strings.Builder2
import Derived.Test.YtgebkpchpliahaaGreatDoorProg
set_option linter.unusedSectionVars false
namespace Go.Ab
open Go.RowKit (Below)
set_option linter.unusedVariables false
set_option linter.unusedSimpArgs false
set_option linter.unusedSectionVars false
@[reducible] def Gl.one (g : Nat) (X : Obj) : Gl := ⟨fun g' X' => g' = g ∧ X' = X⟩
theorem Gl.one_here {g : Nat} {X : Obj} {w : World} (h : w.heap[g]? = some X) : @Gl.here (Gl.one g X) w := fun g' X' ⟨e, e'⟩ => by subst e; subst e'; exact h
section
variable [GL : Gl]
structure ItoaC (P : Program) (f : FuncId) : Prop where
 fn : zKG P f
 run : ∀ (n : Int) (w : World), -9223372036854775808 ≤ n → n ≤ 9223372036854775807 → Lib.TabIs P w "internal/strconv.uint64pow10" .u64 Lib.pow10Tab →
  Calls P f #[.int .i64 n] w fun e w' => e = .returned (.string ⟨(Lib.itoa n).toArray⟩) ∧ ∃ k os, w' = Sort.grow (w.drewN k) os
end
end Go.Ab

namespace Go.Ab
open Go.RowKit (Below)
set_option linter.unusedVariables false
set_option linter.unusedSimpArgs false
set_option linter.unusedSectionVars false
def zEM : List (Int × Int) → List UInt8
 | [] => []
 | x :: r => Lib.itoa x.1 ++ [58] ++ Lib.itoa x.2 ++ [59] ++ zEM r
theorem zKc : ∀ (a b : List (Int × Int)), zEM (a ++ b) = zEM a ++ zEM b
 | [], _ => rfl
 | x :: r, b => by simp [zEM, zKc r b]
def zUO (xs : List (Int × Int)) : ByteArray := ⟨(zEM xs).toArray⟩
def zQA (w : World) (base : Option Addr) (xs : List (Int × Int)) : Prop :=
 ∀ (i : Nat) (x : Int × Int), xs[i]? = some x → ∃ b o, base = some ⟨b, o, none⟩ ∧ w.cell? ⟨b, o + i * 2, none⟩ = some (.int .i64 x.1) ∧ w.cell? ⟨b, o + i * 2 + 1, none⟩ = some (.int .i64 x.2)
def inI (n : Int) : Bool := decide (-9223372036854775808 ≤ n) && decide (n ≤ 9223372036854775807)
def zJK : List PV → Option (List (Int × Int))
 | [] => some []
 | .agg [.int .i64 k, .int .i64 n] :: r => bif inI k && inI n then (zJK r).bind fun l => some ((k, n) :: l) else none
 | _ => none
structure TextC (P : Program) (f : FuncId) : Prop where
 fn : zKG P f
 run : ∀ (base : Option Addr) (cap : Nat) (xs : List (Int × Int)) (w : World), xs.length ≤ cap → xs.length ≤ 1000000 → (∀ x ∈ xs, (-9223372036854775808 ≤ x.1 ∧ x.1 ≤ 9223372036854775807) ∧ -9223372036854775808 ≤ x.2 ∧ x.2 ≤ 9223372036854775807) →
  zQA w base xs → Lib.TabIs P w "internal/strconv.uint64pow10" .u64 Lib.pow10Tab → Calls P f #[.slice base xs.length cap] w fun e w' => e = .returned (.string ⟨(zEM xs).toArray⟩) ∧ Below w.heap.size w w'
section
variable [GL : Gl]
def zWA (args : List AV) (ow : List Ob) : Option (AV × List Ob) :=
 match args, ow with
 | [.pv (.slice 3 xs)], [] => bif decide (xs.length ≤ 1000000) then (zJK xs).bind fun l => some (.pv (.str (zUO l)), []) else none
 | _, _ => none
def zHF : ExtF := ⟨fun _ raw a ow => bif raw then none else zWA a ow, fun _ _ _ _ _ _ _ h => h⟩
theorem zKd {S : Pr} : ∀ {xs : List PV} {l : List (Int × Int)}, zJK xs = some l → l.length = xs.length ∧ ∀ (i : Nat) (x : Int × Int), l[i]? = some x →
 xs[i]? = some (.agg [.int .i64 x.1, .int .i64 x.2]) ∧ (-9223372036854775808 ≤ x.1 ∧ x.1 ≤ 9223372036854775807) ∧ -9223372036854775808 ≤ x.2 ∧ x.2 ≤ 9223372036854775807
 | [], l, h => by
  have h : some [] = some l := h
  cases h
  exact ⟨rfl, fun i x h => by simp at h⟩
 | p :: r, l, h => by
  unfold zJK at h
  split at h
  ·rename_i e; cases e
  ·rename_i k n r' e
   cases e
   obtain ⟨h1, h2⟩ := bif_some h
   obtain ⟨l', h3, h4⟩ := Option.bind_eq_some_iff.1 h2
   cases h4
   simp only [inI, Bool.and_eq_true, decide_eq_true_eq] at h1
   obtain ⟨k1, k2⟩ := zKd (S := S) h3
   refine ⟨by simp [k1], fun i x hx => ?_⟩
   cases i with
   | zero => simp at hx; subst hx; exact ⟨rfl, h1.1, h1.2⟩
   | succ i => exact k2 i x (by simpa using hx)
  ·cases h
theorem zWB {P : Program} {f : FuncId} (hC : TextC P f) (hG : ∃ g t fr, P.globalNamed "internal/strconv.uint64pow10" = some g ∧ GL.tab g (.cells (Lib.pow10Tab.map fun z => Value.int .u64 z).toArray t fr)) : zK5 P f zHF := by
 intro call hcall raw args ow r ow' h
 cases raw with
 | true => simp [zHF] at h
 | false =>
 simp only [zHF, cond_false] at h
 unfold zWA at h
 split at h
 ·rename_i xs
  obtain ⟨hc, h2⟩ := bif_some h
  clear h
  simp only [decide_eq_true_eq] at hc
  obtain ⟨l, hl, h3⟩ := Option.bind_eq_some_iff.1 h2
  simp only [Option.some.injEq, Prod.mk.injEq] at h3
  obtain ⟨rfl, rfl⟩ := h3
  refine Valid.of hC.fn fun S L w vs inv hvs => ?_
  obtain ⟨hlen, hv⟩ := hvs
  match vs, hlen, hv with
  | [v], _, hv =>
   have hv0 : VP S v (.slice 3 xs) := hv 0 v _ rfl rfl
   obtain ⟨hll, hsp⟩ := zKd (S := S) hl
   cases hv0 with
   | slice base len cap _ _ b o vals hl' hc' hb' hsh hS hV =>
    obtain ⟨g, t, fr, hg, hX⟩ := hG
    have htab : Lib.TabIs P w "internal/strconv.uint64pow10" .u64 Lib.pow10Tab := by
     unfold Lib.TabIs World.var?
     rw [hg]
     simp only [Option.bind_some]
     rw [Gl.ok_here inv.glob inv.below g _ hX]
    have hlen2 : l.length = len := by omega
    subst hlen2
    have hrow : zQA w base l := fun i x hx => by
     have hi : i < l.length := (List.getElem?_eq_some_iff.1 hx).1
     obtain ⟨hx1, _⟩ := hsp i x hx
     obtain ⟨s0, o0⟩ := hS i 0 hi (by decide)
     obtain ⟨s1, o1⟩ := hS i 1 hi (by decide)
     have v0 := hV i 0 _ (.int .i64 x.1) hx1 rfl
     have v1 := hV i 1 _ (.int .i64 x.2) hx1 rfl
     have c0 := zFh (inv.prot _ _ _ s0) o0
     have c1 := zFh (inv.prot _ _ _ s1) o1
     rw [zCE v0] at c0
     rw [zCE v1] at c1
     exact ⟨b, o, hb' (by omega), c0, c1⟩
    refine (hC.run base cap l w hc' (by omega) (fun x hx => by
     obtain ⟨i, hi, e⟩ := List.getElem_of_mem hx
     exact (hsp i x (by rw [← e]; exact List.getElem?_eq_getElem hi)).2) hrow htab).mono ?_
    rintro e w' ⟨rfl, hB⟩
    exact ⟨_, S, L, rfl, inv.grow hB (Pr.le_refl S) (fun _ _ _ => rfl) (fun b o v hv => by
     have h1 := inv.prot b o v hv
     rw [zBC (hB.block b (zGw h1))]; exact h1), VP.str _⟩
 ·cases h
theorem zWt {c : Cfg} {f : FuncId} (he : c.ext f = some zHF) (xs : List PV) (l : List (Int × Int)) (hp : zJK xs = some l) (hl : xs.length ≤ 1000000) : wc (evw c) f [.slice 3 xs] = some (.str (zUO l)) := by
 unfold wc
 rw [zFq he]
 simp [zHF, zWA, hp, hl, AV.asPv]
end
end Go.Ab

namespace Go.Ab
open Go.RowKit (Below)
set_option linter.unusedVariables false
set_option linter.unusedSimpArgs false
set_option linter.unusedSectionVars false
theorem zN4 {R : Type} {b : Bool} {x : Option R} {y : R} (h : (bif b then x else none) = some y) : b = true ∧ x = some y := by
 cases b with
 | true => exact ⟨rfl, h⟩
 | false => cases h
def zSm (gs : List FuncId) (call : Wf) (args : List AV) (ow : List Ob) : Option (AV × List Ob) :=
 match args with
 | [.fnv f fs cs] => bif gs.contains f then ((call f false (fs ++ cs) ow).bind fun r => match r.1 with
  | .pv p => bif p.okSh 3 then some (.pv (.tup [p, .bool true]), r.2) else none
  | _ => none) else none
 | [.pv (.fn f fs cs)] => bif gs.contains f then ((call f false ((fs ++ cs).map .pv) ow).bind fun r => match r.1 with
  | .pv p => bif p.okSh 3 then some (.pv (.tup [p, .bool true]), r.2) else none
  | _ => none) else none
 | _ => none
def zMR (gs : List FuncId) : ExtF := ⟨fun call raw a ow => bif raw then none else zSm gs call a ow, fun call call' raw a ow r hc h => by
 cases raw with
 | true => cases h
 | false =>
  simp only [cond_false] at h ⊢
  unfold zSm at h ⊢
  split at h
  ·obtain ⟨hg, h⟩ := zN4 h
   obtain ⟨z, h1, h2⟩ := Option.bind_eq_some_iff.1 h
   simp only [hg, cond_true, hc _ _ _ _ _ h1, Option.bind_some]; exact h2
  ·obtain ⟨hg, h⟩ := zN4 h
   obtain ⟨z, h1, h2⟩ := Option.bind_eq_some_iff.1 h
   simp only [hg, cond_true, hc _ _ _ _ _ h1, Option.bind_some]; exact h2
  ·cases h⟩
variable [GL : Gl]
structure ToldC (P : Program) (gs : List FuncId) (f : FuncId) (t1 t2 : TypeId) (z1 z2 : Value) : Prop where
 fn : zKG P f
 fns : ∀ g ∈ gs, zKG P g
 run : ∀ (g : FuncId) (fs cs : Array Value) (w : World) (Q : Value → Value → World → Prop),
  (∀ w' args, (callFunc g args).run P w' = .ok (.enter g args) w') →
  Calls P g (fs ++ cs) ((w.alloc (.cells #[z1, z2] t1)).alloc (.cells #[.bool false] t2)) (fun e w3 => ∃ x y, e = .returned (.agg #[x, y]) ∧ x.oneCell' = true ∧ y.oneCell' = true ∧
   w3.heap[w.heap.size]? = some (.cells #[z1, z2] t1) ∧ w3.heap[w.heap.size + 1]? = some (.cells #[.bool false] t2) ∧ Q x y w3) →
  Calls P f #[.func (.func g) fs cs] w fun e w' => ∃ x y w3, e = .returned (.tuple #[.agg #[x, y], .bool true]) ∧ Q x y w3 ∧ w3.heap[w.heap.size]? = some (.cells #[z1, z2] t1) ∧ w3.heap[w.heap.size + 1]? = some (.cells #[.bool false] t2) ∧
   w' = { w3 with heap := (w3.heap.setIfInBounds w.heap.size (.cells #[x, y] t1)).setIfInBounds (w.heap.size + 1) (.cells #[.bool true] t2) }
theorem Inv.rebase {B B' : Base} {S0 S : Pr} {L : List Loc} {ow : List Ob} {w : World} (h : Inv B S0 S L ow w) (hw : B'.w = B.w) (ha : B'.anc = B.anc) (ho : ∀ b, B'.old b ↔ B.old b) : Inv B' S0 S L ow w where
 len := h.len
 below := ⟨by rw [hw]; exact h.below.os, by rw [hw]; exact h.below.tape, by rw [hw]; exact h.below.output, by rw [hw]; exact h.below.size, fun k hk => by rw [hw]; exact h.below.block k ((ho k).1 hk)⟩
 prot := h.prot
 old := fun b o hb => h.old b o ((ho b).1 hb)
 le := h.le
 glob := fun g X hg => by
  obtain ⟨h1, h2⟩ := h.glob g X hg
  exact ⟨(ho g).2 h1, by rw [hw]; exact h2⟩
 anc := by rw [ha]; exact h.anc
 obs := h.obs
 own := fun o ob l b q1 q2 q3 => by
  obtain ⟨h1, h2, h3⟩ := h.own o ob l b q1 q2 q3
  exact ⟨fun e => h1 ((ho b).1 e), h2, h3⟩
 sep := h.sep
theorem Inv.poke {w0 : Base} {S0 S : Pr} {L : List Loc} {ow : List Ob} {w : World} (inv : Inv w0 S0 S L ow w) {b : Nat} (X : Go.Obj) (hS : ∀ o, S b o = none) (ho : ¬ w0.old b)
 (hfree : ∀ (o : Nat) (ob : Ob) (l : Loc), ow[o]? = some ob → L[o]? = some l → b ∉ zE ob l) : Inv w0 S0 S L ow { w with heap := w.heap.setIfInBounds b X } := by
 have hother : ∀ k, k ≠ b → (w.heap.setIfInBounds b X)[k]? = w.heap[k]? := fun k hk => Array.getElem?_setIfInBounds_ne (Ne.symm hk)
 exact {
  len := inv.len
  below := ⟨inv.below.os, inv.below.tape, inv.below.output, by simpa using inv.below.size, fun k hk => (hother k (fun e => ho (e ▸ hk))).trans (inv.below.block k hk)⟩
  prot := fun k o v hv => by
   have hne : k ≠ b := fun e => by subst e; rw [hS o] at hv; cases hv
   rw [zBC (w := w) (hother k hne)]; exact inv.prot k o v hv
  old := inv.old
  le := inv.le
  glob := inv.glob
  anc := inv.anc
  obs := fun o x y hx hy => (inv.obs o x y hx hy).keep (Evo.refl _ _ _) (fun k hk => hother k (fun e => hfree o x y hx hy (e ▸ hk)))
  own := fun o x y k hx hy hb => by
   obtain ⟨h1, h2, h3⟩ := inv.own o x y k hx hy hb
   exact ⟨h1, by simpa using h2, h3⟩
  sep := inv.sep }
theorem zQB {L : List Loc} {ow : List Ob} {w : World} {b : Nat} : (hand L ow w).old b ↔ b < w.heap.size ∧ ¬ ∃ (o : Nat) (ob : Ob) (l : Loc), ow[o]? = some ob ∧ L[o]? = some l ∧ b ∈ zE ob l := Iff.rfl
theorem zWC {P : Program} {gs : List FuncId} {f : FuncId} {t1 t2 : TypeId} {z1 z2 : Value} (hC : ToldC P gs f t1 t2 z1 z2) : zK5 P f (zMR gs) := by
 intro call hcall raw args ow r ow' h
 simp only [zMR] at h
 cases raw with
 | true => cases h
 | false =>
 simp only [cond_false] at h
 have key : ∀ (g : FuncId) (ars : List AV) (hgs : gs.contains g = true) (hg : (call g false ars ow).bind (fun r => match r.1 with | .pv p => bif p.okSh 3 then some (.pv (.tup [p, .bool true]), r.2) else none | _ => none) = some (r, ow'))
  (S : Pr) (L : List Loc) (w : World) (fs cs : Array Value), Inv (hand L ow w) S S L ow w → VAs S L ow (fs ++ cs).toList ars →
  Res P (fun v w' => ∃ S' L', Inv (hand L ow w) S S' L' ow' w' ∧ VA S' L' ow' v r) ((callFunc f #[.func (.func g) fs cs]).run P w) := by
  intro g ars hgs hg S L w fs cs inv hvs
  obtain ⟨⟨q, ow1⟩, h1, h2⟩ := Option.bind_eq_some_iff.1 hg
  simp only at h2
  split at h2
  ·rename_i p
   obtain ⟨hp, h3⟩ := bif_some h2
   simp only [Option.some.injEq, Prod.mk.injEq] at h3
   obtain ⟨rfl, rfl⟩ := h3
   have hv := hcall g false ars ow _ _ h1
   have hgf := hC.fns g (by simpa using hgs)
   have inv1 := inv.late (.cells #[z1, z2] t1)
   have inv2 := inv1.late (.cells #[.bool false] t2)
   have hs1 : (w.alloc (.cells #[z1, z2] t1)).heap.size = w.heap.size + 1 := by show (w.heap.push _).size = _; simp
   have hlt : ∀ (o : Nat) (ob : Ob) (l : Loc) b, ow[o]? = some ob → L[o]? = some l → b ∈ zE ob l → b < w.heap.size := fun o ob l b a1 a2 a3 => (inv.own o ob l b a1 a2 a3).2.1
   have holds : ∀ b, (hand L ow ((w.alloc (.cells #[z1, z2] t1)).alloc (.cells #[.bool false] t2))).old b ↔ (late (late (hand L ow w) w (.cells #[z1, z2] t1)) (w.alloc (.cells #[z1, z2] t1)) (.cells #[.bool false] t2)).old b := fun b => by
    rw [zFD, zFD, zQB, zQB, hs1]
    have hs2 : ((w.alloc (.cells #[z1, z2] t1)).alloc (.cells #[.bool false] t2)).heap.size = w.heap.size + 1 + 1 := by show ((w.alloc _).heap.push _).size = _; simp [hs1]
    rw [hs2]
    constructor
    ·rintro ⟨a1, a2⟩
     refine ⟨a1, ?_⟩
     rcases Nat.lt_or_ge b w.heap.size with c | c
     ·exact .inl ⟨by omega, .inl ⟨c, a2⟩⟩
     ·rcases Nat.lt_or_ge b (w.heap.size + 1) with c2 | c2
      ·exact .inl ⟨c2, .inr (by omega)⟩
      ·exact .inr (by omega)
    ·rintro ⟨a1, a2⟩
     refine ⟨a1, ?_⟩
     rintro ⟨o, ob, l, b1, b2, b3⟩
     have := hlt o ob l b b1 b2 b3
     rcases a2 with ⟨_, a2 | a2⟩ | a2
     ·exact a2.2 ⟨o, ob, l, b1, b2, b3⟩
     ·omega
     ·omega
   have inv3 : Inv (hand L ow ((w.alloc (.cells #[z1, z2] t1)).alloc (.cells #[.bool false] t2))) S S L ow ((w.alloc (.cells #[z1, z2] t1)).alloc (.cells #[.bool false] t2)) := inv2.rebase rfl rfl holds
   have hr := hv S L _ _ inv3 hvs
   have eg : ∀ w' args, (callFunc g args).run P w' = .ok (.enter g args) w' := fun w' args => by
    have := zEV (P := P) (w := w') (vs := args.toList) hgf
    simpa using this
   rw [Array.toArray_toList, eg] at hr
   have hcall2 : (callFunc f #[.func (.func g) fs cs]).run P w = .ok (.enter f #[.func (.func g) fs cs]) w := zEV (vs := [.func (.func g) fs cs]) hC.fn
   rw [hcall2]
   refine Calls.mono (hC.run g fs cs w (fun x y w3 => ∃ S' L', Inv (hand L ow ((w.alloc (.cells #[z1, z2] t1)).alloc (.cells #[.bool false] t2))) S S' L' ow1 w3 ∧ VP S' (.agg #[x, y]) p) eg (Calls.mono hr ?_)) ?_
   ·rintro e w3 ⟨v, rfl, S', L', j3, hvp⟩
    have hvp : VP S' v p := hvp
    obtain ⟨ps, rfl⟩ : ∃ ps, p = .agg ps := by cases p <;> simp [PV.okSh] at hp; exact ⟨_, rfl⟩
    have hl : ps.length = 2 := by simpa [PV.okSh] using hp
    cases hvp with
    | agg vs _ hl' ho hj =>
     have hsz : vs.size = 2 := by omega
     obtain ⟨x, y, rfl⟩ : ∃ x y, vs = #[x, y] := ⟨vs[0], vs[1], by
      apply Array.ext
      ·simp [hsz]
      ·intro i hi1 hi2
       match i, hi2 with
       | 0, _ => rfl
       | 1, _ => rfl⟩
     have j2 := j3.rebase (B' := late (late (hand L ow w) w (.cells #[z1, z2] t1)) (w.alloc (.cells #[z1, z2] t1)) (.cells #[.bool false] t2)) rfl rfl (fun b => (holds b).symm)
     have p2 := inv1.pending j2
     have j1 := inv1.back j2
     have p1 := inv.pending j1
     rw [hs1] at p2
     exact ⟨x, y, rfl, ho x (by simp), ho y (by simp), p1.1, p2.1, S', L', j3, .agg _ _ hl' ho hj⟩
   ·rintro e w' ⟨x, y, w3, rfl, ⟨S', L', j3, hvp⟩, a1, a2, rfl⟩
    have j2 := j3.rebase (B' := late (late (hand L ow w) w (.cells #[z1, z2] t1)) (w.alloc (.cells #[z1, z2] t1)) (.cells #[.bool false] t2)) rfl rfl (fun b => (holds b).symm)
    obtain ⟨_, _, b3, b4, b5⟩ := inv1.pending j2
    have j1 := inv1.back j2
    obtain ⟨_, _, c3, c4, c5⟩ := inv.pending j1
    have j0 := inv.back j1
    rw [hs1] at b3 b4 b5
    have k1 := j0.poke (.cells #[x, y] t1) c3 c4 c5
    have hno : ¬ (hand L ow w).old (w.heap.size + 1) := fun h => by have := h.1; simp [hand] at this; omega
    have k2 := k1.poke (b := w.heap.size + 1) (.cells #[.bool true] t2) b3 hno b5
    exact ⟨_, rfl, S', L', k2, .tup _ _ rfl (fun j v q hj hq => by
     match j with
     | 0 => simp at hj hq; subst hj; subst hq; exact hvp
     | 1 => simp at hj hq; subst hj; subst hq; exact VP.bool _
     | j + 2 => simp at hj)⟩
  ·cases h2
 unfold zSm at h
 intro S L w vs inv hvs
 split at h
 ·rename_i g fs cs
  obtain ⟨hgs, h⟩ := bif_some h
  obtain ⟨hlen, hv⟩ := hvs
  match vs, hlen, hv with
  | [v], _, hv =>
   have hx : VA1 S L ow v (.fnv g fs cs) := hv 0 v _ rfl rfl
   obtain ⟨fa, ca, rfl, e1, e2, k1, k2⟩ := hx
   refine key g (fs ++ cs) hgs h S L w fa ca inv ⟨by simp [e1, e2], fun j x a hx ha => ?_⟩
   rw [Array.toList_append] at hx
   rcases Nat.lt_or_ge j fs.length with c | c
   ·rw [List.getElem?_append_left (by simp [e1]; omega)] at hx
    rw [List.getElem?_append_left c] at ha
    exact (k1 j x a (by simpa using hx) ha).va
   ·rw [List.getElem?_append_right (by simp [e1]; omega)] at hx
    rw [List.getElem?_append_right c] at ha
    exact (k2 (j - fs.length) x a (by simpa [e1] using hx) ha).va
 ·rename_i g fs cs
  obtain ⟨hgs, h⟩ := bif_some h
  obtain ⟨hlen, hv⟩ := hvs
  match vs, hlen, hv with
  | [v], _, hv =>
   have hx : VP S v (.fn g fs cs) := hv 0 v _ rfl rfl
   cases hx with
   | fn _ fa ca _ _ e1 e2 k1 k2 =>
    refine key g ((fs ++ cs).map .pv) hgs h S L w fa ca inv ⟨by simp [e1, e2], fun j x a hx ha => ?_⟩
    rw [Array.toList_append] at hx
    rw [List.getElem?_map] at ha
    obtain ⟨q, hq, rfl⟩ := Option.map_eq_some_iff.1 ha
    rcases Nat.lt_or_ge j fs.length with c | c
    ·rw [List.getElem?_append_left (by simp [e1]; omega)] at hx
     rw [List.getElem?_append_left c] at hq
     exact k1 j x q (by simpa using hx) hq
    ·rw [List.getElem?_append_right (by simp [e1]; omega)] at hx
     rw [List.getElem?_append_right c] at hq
     exact k2 (j - fs.length) x q (by simpa [e1] using hx) hq
 ·cases h
end Go.Ab

namespace Go.Proofs
open Go.Shelf
def Tryz.lays169_ren : Go.Shelf.Ren := ⟨fun | 169 => 123 | n => n, fun | 70 => 150 | 9 => 9 | 0 => 0 | 72 => 153 | 37 => 151 | 127 => 202 | 3 => 3 | 5 => 5 | n => n, fun | n => n⟩
theorem Tryz.lays169 : Go.Proofs.Lays.n169 Tryz.prog Tryz.lays169_ren := {
 mixed := by kernel_rfl
 f169 := Tryz.func123.trans (congrArg some (by kernel_rfl))
 t0 := Tryz.underlying0
 a0 := Tryz.isAgg0
 z0 := Tryz.sizeOf0
 v0 := Tryz.zeroValue0
 t3 := Tryz.underlying3
 a3 := Tryz.isAgg3
 z3 := Tryz.sizeOf3
 v3 := Tryz.zeroValue3
 t9 := Tryz.underlying9
 a9 := Tryz.isAgg9
 z9 := Tryz.sizeOf9
 v9 := Tryz.zeroValue9
 t37 := Tryz.underlying151
 a37 := Tryz.isAgg151
 z37 := Tryz.sizeOf151
 v37 := Tryz.zeroValue151
 t70 := Tryz.underlying150
 a70 := Tryz.isAgg150
 z70 := Tryz.sizeOf150
 v70 := Tryz.zeroValue150
 t72 := Tryz.underlying153
 a72 := Tryz.isAgg153
 z72 := Tryz.sizeOf153
 v72 := Tryz.zeroValue153
 t127 := Tryz.underlying202
 a127 := Tryz.isAgg202
 z127 := Tryz.sizeOf202
 v127 := Tryz.zeroValue202 }
theorem Tryz.Builder_Extra_169 : Builder.Extra Tryz.prog Tryz.lays169_ren := {
 sizeBuilder := by kernel_rfl
 liesBuilder := by kernel_rfl
 t5 := Tryz.underlying5
 a5 := Tryz.isAgg5
 z5 := Tryz.sizeOf5
 v5 := Tryz.zeroValue5
 infoByte := by kernel_rfl
 cellsByte := by kernel_rfl
 sizeByte := by kernel_rfl
 neB5 := by decide }
open Go.RowKit in
theorem Tryz.Builder_String_any (B b : Nat) (l : List UInt8) (w : World) (h : Lib.IsBuilder 153 5 B b (Lib.byteCells l) w) (hBw : B ≤ w.heap.size) :
 Calls Tryz.prog 123 #[.pointer (some ⟨b, 0, none⟩)] w fun e w' => e = .returned (.string ⟨l.toArray⟩) ∧ Below B w w' := Any.Builder_String_any Tryz.lays169 Tryz.Builder_Extra_169 B b l w h hBw
def Tryz.lays129_ren : Go.Shelf.Ren := ⟨fun | 129 => 234 | n => n, fun | 53 => 217 | 3 => 3 | 4 => 4 | 46 => 209 | 5 => 5 | 9 => 9 | n => n, fun | n => n⟩
theorem Tryz.lays129 : Go.Proofs.Lays.n129 Tryz.prog Tryz.lays129_ren := {
 mixed := by kernel_rfl
 f129 := Tryz.func234.trans (congrArg some (by kernel_rfl))
 t3 := Tryz.underlying3
 a3 := Tryz.isAgg3
 z3 := Tryz.sizeOf3
 v3 := Tryz.zeroValue3
 t4 := Tryz.underlying4
 a4 := Tryz.isAgg4
 z4 := Tryz.sizeOf4
 v4 := Tryz.zeroValue4
 t5 := Tryz.underlying5
 a5 := Tryz.isAgg5
 z5 := Tryz.sizeOf5
 v5 := Tryz.zeroValue5
 t9 := Tryz.underlying9
 a9 := Tryz.isAgg9
 z9 := Tryz.sizeOf9
 v9 := Tryz.zeroValue9
 t46 := Tryz.underlying209
 a46 := Tryz.isAgg209
 z46 := Tryz.sizeOf209
 v46 := Tryz.zeroValue209
 t53 := Tryz.underlying217
 a53 := Tryz.isAgg217
 z53 := Tryz.sizeOf217
 v53 := Tryz.zeroValue217 }
theorem Tryz.bits_Len64 (x : Int) (w : World) (h0 : 0 ≤ x) (h1 : x ≤ 18446744073709551615) :
 Calls Tryz.prog 234 #[.int .u64 x] w fun e w' => e = .returned (.int .i64 (Lib.bitLen x.toNat)) ∧ w' = w := Any.bits_Len64 Tryz.lays129 x w h0 h1
def Tryz.laysM171_ren : Go.Shelf.Ren := ⟨fun | 171 => 122 | 243 => 181 | 246 => 220 | 283 => 250 | 284 => 251 | 285 => 252 | 286 => 253 | 129 => 234 | 317 => 286 | 318 => 287 | 319 => 288 | 320 => 289 | 337 => 306 | 338 => 307 | n => n, fun | 3 => 3 | 9 => 9 | 2 => 2 | 4 => 4 | 171 => 254 | 0 => 0 | 53 => 217 | 37 => 151 | 5 => 5 | 173 => 256 | 212 => 269 | 51 => 246 | 20 => 20 | 213 => 270 | 46 => 209 | 232 => 282 | 233 => 283 | n => n, fun | 17 => 0 | 18 => 1 | 19 => 2 | n => n⟩
theorem Tryz.laysM171 : Go.Proofs.LaysM.n171 Tryz.prog Tryz.laysM171_ren := {
 mixed := by kernel_rfl
 f129 := Tryz.func234.trans (congrArg some (by kernel_rfl))
 f171 := Tryz.func122.trans (congrArg some (by kernel_rfl))
 f243 := Tryz.func181.trans (congrArg some (by kernel_rfl))
 f246 := Tryz.func220.trans (congrArg some (by kernel_rfl))
 f283 := Tryz.func250.trans (congrArg some (by kernel_rfl))
 f284 := Tryz.func251.trans (congrArg some (by kernel_rfl))
 f285 := Tryz.func252.trans (congrArg some (by kernel_rfl))
 f286 := Tryz.func253.trans (congrArg some (by kernel_rfl))
 f317 := Tryz.func286.trans (congrArg some (by kernel_rfl))
 f318 := Tryz.func287.trans (congrArg some (by kernel_rfl))
 f319 := Tryz.func288.trans (congrArg some (by kernel_rfl))
 f320 := Tryz.func289.trans (congrArg some (by kernel_rfl))
 f337 := Tryz.func306.trans (congrArg some (by kernel_rfl))
 f338 := Tryz.func307.trans (congrArg some (by kernel_rfl))
 t0 := Tryz.underlying0
 a0 := Tryz.isAgg0
 z0 := Tryz.sizeOf0
 v0 := Tryz.zeroValue0
 t2 := Tryz.underlying2
 a2 := Tryz.isAgg2
 z2 := Tryz.sizeOf2
 v2 := Tryz.zeroValue2
 t3 := Tryz.underlying3
 a3 := Tryz.isAgg3
 z3 := Tryz.sizeOf3
 v3 := Tryz.zeroValue3
 t4 := Tryz.underlying4
 a4 := Tryz.isAgg4
 z4 := Tryz.sizeOf4
 v4 := Tryz.zeroValue4
 t5 := Tryz.underlying5
 a5 := Tryz.isAgg5
 z5 := Tryz.sizeOf5
 v5 := Tryz.zeroValue5
 t9 := Tryz.underlying9
 a9 := Tryz.isAgg9
 z9 := Tryz.sizeOf9
 v9 := Tryz.zeroValue9
 t20 := Tryz.underlying20
 a20 := Tryz.isAgg20
 z20 := Tryz.sizeOf20
 v20 := Tryz.zeroValue20
 t37 := Tryz.underlying151
 a37 := Tryz.isAgg151
 z37 := Tryz.sizeOf151
 v37 := Tryz.zeroValue151
 t46 := Tryz.underlying209
 a46 := Tryz.isAgg209
 z46 := Tryz.sizeOf209
 v46 := Tryz.zeroValue209
 t51 := Tryz.underlying246
 a51 := Tryz.isAgg246
 z51 := Tryz.sizeOf246
 v51 := Tryz.zeroValue246
 t53 := Tryz.underlying217
 a53 := Tryz.isAgg217
 z53 := Tryz.sizeOf217
 v53 := Tryz.zeroValue217
 t171 := Tryz.underlying254
 a171 := Tryz.isAgg254
 z171 := Tryz.sizeOf254
 v171 := Tryz.zeroValue254
 t173 := Tryz.underlying256
 a173 := Tryz.isAgg256
 z173 := Tryz.sizeOf256
 v173 := Tryz.zeroValue256
 t212 := Tryz.underlying269
 a212 := Tryz.isAgg269
 z212 := Tryz.sizeOf269
 v212 := Tryz.zeroValue269
 t213 := Tryz.underlying270
 a213 := Tryz.isAgg270
 z213 := Tryz.sizeOf270
 t232 := Tryz.underlying282
 a232 := Tryz.isAgg282
 z232 := Tryz.sizeOf282
 v232 := Tryz.zeroValue282
 t233 := Tryz.underlying283
 a233 := Tryz.isAgg283
 z233 := Tryz.sizeOf283
 v233 := Tryz.zeroValue283
 g17 := by kernel_rfl
 g18 := by kernel_rfl
 g19 := by kernel_rfl
 i0 := by kernel_rfl
 i2 := by kernel_rfl
 i3 := by kernel_rfl
 i4 := by kernel_rfl
 i5 := by kernel_rfl
 i9 := by kernel_rfl
 i20 := by kernel_rfl
 i37 := by kernel_rfl
 i46 := by kernel_rfl
 i51 := by kernel_rfl
 i53 := by kernel_rfl
 i171 := by kernel_rfl
 i173 := by kernel_rfl
 i212 := by kernel_rfl
 i232 := by kernel_rfl
 i233 := by kernel_rfl
 m17 := by kernel_rfl
 m18 := by kernel_rfl
 m19 := by kernel_rfl }
open Go.RowKit Go.Sort Go.Lib in
theorem Tryz.strconv_Itoa (n : Int) (h0 : -9223372036854775808 ≤ n) (h1 : n ≤ 9223372036854775807) (w : World) (htab : Lib.TabIs Tryz.prog w "internal/strconv.uint64pow10" .u64 Lib.pow10Tab) :
 Calls Tryz.prog 122 #[.int .i64 n] w fun e w' => e = .returned (.string ⟨(Lib.itoa n).toArray⟩) ∧ ∃ k os, w' = grow (w.drewN k) os := Any.strconv_Itoa Tryz.laysM171 n h0 h1 w htab
def Tryz.lays189_ren : Go.Shelf.Ren := ⟨fun | 189 => 139 | 125 => 190 | 257 => 189 | 128 => 233 | 129 => 234 | 294 => 224 | 295 => 225 | 296 => 226 | 297 => 227 | 298 => 228 | 299 => 229 | 216 => 230 | 300 => 231 | 301 => 232 | 328 => 266 | 329 => 267 | 330 => 268 | 331 => 269 | 332 => 270 | 215 => 221 | 343 => 300 | n => n, fun | 28 => 28 | 3 => 3 | 46 => 209 | 0 => 0 | 51 => 246 | 53 => 217 | 4 => 4 | 183 => 240 | 182 => 239 | 131 => 124 | 5 => 5 | 9 => 9 | 218 => 259 | 222 => 263 | 228 => 276 | 229 => 277 | n => n, fun | n => n⟩
theorem Tryz.lays189 : Go.Proofs.Lays.n189 Tryz.prog Tryz.lays189_ren := {
 mixed := by kernel_rfl
 f125 := Tryz.func190.trans (congrArg some (by kernel_rfl))
 f128 := Tryz.func233.trans (congrArg some (by kernel_rfl))
 f129 := Tryz.func234.trans (congrArg some (by kernel_rfl))
 f189 := Tryz.func139.trans (congrArg some (by kernel_rfl))
 f215 := Tryz.func221.trans (congrArg some (by kernel_rfl))
 f216 := Tryz.func230.trans (congrArg some (by kernel_rfl))
 f257 := Tryz.func189.trans (congrArg some (by kernel_rfl))
 f294 := Tryz.func224.trans (congrArg some (by kernel_rfl))
 f295 := Tryz.func225.trans (congrArg some (by kernel_rfl))
 f296 := Tryz.func226.trans (congrArg some (by kernel_rfl))
 f297 := Tryz.func227.trans (congrArg some (by kernel_rfl))
 f298 := Tryz.func228.trans (congrArg some (by kernel_rfl))
 f299 := Tryz.func229.trans (congrArg some (by kernel_rfl))
 f300 := Tryz.func231.trans (congrArg some (by kernel_rfl))
 f301 := Tryz.func232.trans (congrArg some (by kernel_rfl))
 f328 := Tryz.func266.trans (congrArg some (by kernel_rfl))
 f329 := Tryz.func267.trans (congrArg some (by kernel_rfl))
 f330 := Tryz.func268.trans (congrArg some (by kernel_rfl))
 f331 := Tryz.func269.trans (congrArg some (by kernel_rfl))
 f332 := Tryz.func270.trans (congrArg some (by kernel_rfl))
 f343 := Tryz.func300.trans (congrArg some (by kernel_rfl))
 t0 := Tryz.underlying0
 a0 := Tryz.isAgg0
 z0 := Tryz.sizeOf0
 v0 := Tryz.zeroValue0
 t3 := Tryz.underlying3
 a3 := Tryz.isAgg3
 z3 := Tryz.sizeOf3
 v3 := Tryz.zeroValue3
 t4 := Tryz.underlying4
 a4 := Tryz.isAgg4
 z4 := Tryz.sizeOf4
 v4 := Tryz.zeroValue4
 t5 := Tryz.underlying5
 a5 := Tryz.isAgg5
 z5 := Tryz.sizeOf5
 v5 := Tryz.zeroValue5
 t9 := Tryz.underlying9
 a9 := Tryz.isAgg9
 z9 := Tryz.sizeOf9
 v9 := Tryz.zeroValue9
 t28 := Tryz.underlying28
 a28 := Tryz.isAgg28
 z28 := Tryz.sizeOf28
 v28 := Tryz.zeroValue28
 t46 := Tryz.underlying209
 a46 := Tryz.isAgg209
 z46 := Tryz.sizeOf209
 v46 := Tryz.zeroValue209
 t51 := Tryz.underlying246
 a51 := Tryz.isAgg246
 z51 := Tryz.sizeOf246
 v51 := Tryz.zeroValue246
 t53 := Tryz.underlying217
 a53 := Tryz.isAgg217
 z53 := Tryz.sizeOf217
 v53 := Tryz.zeroValue217
 t131 := Tryz.underlying124
 a131 := Tryz.isAgg124
 z131 := Tryz.sizeOf124
 v131 := Tryz.zeroValue124
 t182 := Tryz.underlying239
 a182 := Tryz.isAgg239
 z182 := Tryz.sizeOf239
 v182 := Tryz.zeroValue239
 t183 := Tryz.underlying240
 a183 := Tryz.isAgg240
 z183 := Tryz.sizeOf240
 v183 := Tryz.zeroValue240
 t218 := Tryz.underlying259
 a218 := Tryz.isAgg259
 z218 := Tryz.sizeOf259
 v218 := Tryz.zeroValue259
 t222 := Tryz.underlying263
 a222 := Tryz.isAgg263
 z222 := Tryz.sizeOf263
 v222 := Tryz.zeroValue263
 t228 := Tryz.underlying276
 a228 := Tryz.isAgg276
 z228 := Tryz.sizeOf276
 v228 := Tryz.zeroValue276
 t229 := Tryz.underlying277
 a229 := Tryz.isAgg277
 z229 := Tryz.sizeOf277
 v229 := Tryz.zeroValue277 }
open Go.Sort Go.RowKit in
theorem Tryz.slices_Sort_int (blk off cap : Nat) (zs : List Int) (w : World) (hH : Holds (Value.int .i64) w blk off zs.toArray) (hblk : blk < w.heap.size) (hsz : zs.length < 4611686018427387904) :
 Calls Tryz.prog 139 #[.slice (some ⟨blk, off, none⟩) zs.length cap] w fun e w' =>
  e = .returned (.tuple #[]) ∧ ∃ n os, w' = grow (putRow (Value.int .i64) (Sort.ahead w n) blk off (zs.mergeSort fun x y => decide (x ≤ y)).toArray) os := Any.slices_Sort_int Tryz.lays189 blk off cap zs w hH hblk hsz
def Tryz.lays264_ren : Go.Shelf.Ren := ⟨fun | 264 => 295 | n => n, fun | 53 => 217 | 46 => 209 | n => n, fun | n => n⟩
theorem Tryz.lays264 : Go.Proofs.Lays.n264 Tryz.prog Tryz.lays264_ren := {
 mixed := by kernel_rfl
 f264 := Tryz.func295.trans (congrArg some (by kernel_rfl))
 t46 := Tryz.underlying209
 a46 := Tryz.isAgg209
 z46 := Tryz.sizeOf209
 v46 := Tryz.zeroValue209
 t53 := Tryz.underlying217
 a53 := Tryz.isAgg217
 z53 := Tryz.sizeOf217
 v53 := Tryz.zeroValue217 }
open Go.RowKit Go.Lib in
theorem Tryz.bits_Mul64 (x y : Nat) (hx : x < 18446744073709551616) (hy : y < 18446744073709551616) (w : World) :
 Calls Tryz.prog 295 #[.int .u64 x, .int .u64 y] w fun e w' => e = .returned (.tuple #[.int .u64 ((x * y / 18446744073709551616 : Nat) : Int), .int .u64 ((x * y % 18446744073709551616 : Nat) : Int)]) ∧ w' = w := Any.bits_Mul64 Tryz.lays264 x y hx hy w
def Tryz.laysNm220_ren : Go.Shelf.Ren := ⟨fun | 20 => 140 | n => n, fun | 22 => 28 | 3 => 3 | 4 => 4 | 0 => 0 | n => n, fun | n => n⟩
theorem Tryz.laysNm220 : Go.Proofs.Lays2.n20 Tryz.prog Tryz.laysNm220_ren := {
 mixed := by kernel_rfl
 f20 := Tryz.func140.trans (congrArg some (by kernel_rfl))
 t0 := Tryz.underlying0
 a0 := Tryz.isAgg0
 z0 := Tryz.sizeOf0
 v0 := Tryz.zeroValue0
 t3 := Tryz.underlying3
 a3 := Tryz.isAgg3
 z3 := Tryz.sizeOf3
 v3 := Tryz.zeroValue3
 t4 := Tryz.underlying4
 a4 := Tryz.isAgg4
 z4 := Tryz.sizeOf4
 v4 := Tryz.zeroValue4
 t22 := Tryz.underlying28
 a22 := Tryz.isAgg28
 z22 := Tryz.sizeOf28
 v22 := Tryz.zeroValue28
 i3 := by kernel_rfl }
open Go.RowKit Go.Lib Go.Sort in
theorem Tryz.slices_Compact_int (blk off cap : Nat) (zs : List Int) (w : World) (hH : Holds (Value.int .i64) w blk off zs.toArray) (hsz : zs.length ≤ 9223372036854775807) (hcap : zs.length ≤ cap) :
 Calls Tryz.prog 140 #[.slice (some ⟨blk, off, none⟩) zs.length cap] w fun e w' => e = .returned (.slice (some ⟨blk, off, none⟩) (Lib.compact zs).length cap) ∧ ∃ q, w' = putRow (Value.int .i64) (Sort.ahead w q) blk off (Lib.compact zs ++ List.replicate (zs.length - (Lib.compact zs).length) 0).toArray := Any.slices_Compact_int Tryz.laysNm220 blk off cap zs w hH hsz hcap
open Go.RowKit Go.Lib Go.Sort in
theorem Tryz.slices_Compact_int_empty (a : Option Addr) (cap : Nat) (w : World) :
 Calls Tryz.prog 140 #[.slice a 0 cap] w fun e w' => e = .returned (.slice a 0 cap) ∧ w' = w := Any.slices_Compact_int_empty Tryz.laysNm220 a cap w
open Go.RowKit Go.Sort in
theorem Tryz.slices_Sort_int_none (p : Option Addr) (cap : Nat) (w : World) :
 Calls Tryz.prog 139 #[.slice p 0 cap] w fun e w' => e = .returned (.tuple #[]) ∧ w' = w := Any.slices_Sort_int_none Tryz.lays189 p cap w
end Go.Proofs
