/- What reads as data of a type is of the printer's kind of that type: whole numbers, bools, strings, slices, structs; nothing of a program stands here. -/
import Derived.Test.YtdegbnjnbpjdfaaWWords
import Derived.WalkKit
import Derived.ProofKit
import Derived.OpenShut
import Derived.ShutString
import Derived.ChangeOld
import Derived.Below
import Derived.SizedLaws
import Derived.DataReads
namespace Go.Proofs.Ytdegbnjnbpjdfaa.Open
open Go.ChangeShapes Go.WideShapes Go.RowKit Go.Proofs.YtdegbnjnbpjdfaaW.PrintWords

/-- What reads as data of type t is of the kind d, and what stands in it is as wf says. -/
structure Opens (P : Program) (t : TypeId) {α : Type} (d : Kd α) (wf : α → Prop) (fuel : Nat) : Prop where mk ::
  out : ∀ {H : Type} {enc : TypeId × Value → H} {W : World} {base : Nat} {spare : Nat → Bool} {held : Bool} {cs : List Value} {x : DataW H × List MemPlace}, DataW.trod enc P W base spare held fuel t cs = some x → ∃ y, d.K W y cs ∧ wf y
/-- The same of the fields of a struct from a place on. -/
structure OpensAt (P : Program) (fs : List Field) (o tot : Nat) {α : Type} (d : Kd α) (wf : α → Prop) (fuel : Nat) : Prop where mk ::
  out : ∀ {H : Type} {enc : TypeId × Value → H} {W : World} {base : Nat} {spare : Nat → Bool} {held : Bool} {cs : List Value}, cs.length = o + tot → (∀ (i : Nat) (f : Field), fs[i]? = some f → ∃ x, DataW.trod enc P W base spare held fuel f.type ((cs.drop f.offset).take (P.cellsOf f.type)) = some x) → ∃ y, d.K W y (cs.drop o) ∧ wf y
variable {P : Program} {t : TypeId} {fuel : Nat}
theorem opens_int {k : IntKind} (ht : P.underlying t = some (.int k)) : Opens P t (Kd.int k) (fun n => (Lit.int k n).wf = true) fuel := by
  refine ⟨fun h => ?_⟩
  obtain ⟨n, rfl, _, hw⟩ := DataW.trod_int ht h
  exact ⟨n, rfl, hw⟩
theorem opens_bool (ht : P.underlying t = some .bool) : Opens P t Kd.bool (fun _ => True) fuel := by
  refine ⟨fun h => ?_⟩
  obtain ⟨n, rfl, _⟩ := DataW.trod_bool ht h
  exact ⟨n, rfl, trivial⟩
theorem opens_string (ht : P.underlying t = some .string) : Opens P t Kd.string (fun s => s.size ≤ maxLen) fuel := by
  refine ⟨fun h => ?_⟩
  obtain ⟨n, rfl, _, hw⟩ := DataW.trod_string ht h
  exact ⟨n, rfl, hw⟩
theorem list_choose {α : Type} {Q : Nat → α → Prop} : ∀ n, (∀ i, i < n → ∃ y, Q i y) → ∃ ys : List α, ys.length = n ∧ ∀ j p, ys[j]? = some p → Q j p
  | 0, _ => ⟨[], rfl, fun j p h => by simp at h⟩
  | n + 1, h => by
    obtain ⟨ys, hl, hy⟩ := list_choose n (fun i hi => h i (by omega))
    obtain ⟨y, hq⟩ := h n (by omega)
    refine ⟨ys ++ [y], by simp [hl], fun j p hj => ?_⟩
    rcases Nat.lt_or_ge j ys.length with hlt | hge
    · rw [List.getElem?_append_left hlt] at hj
      exact hy j p hj
    · have hlt := (List.getElem?_eq_some_iff.1 hj).1
      simp only [List.length_append, List.length_singleton] at hlt
      have hjn : j = n := by omega
      rw [List.getElem?_append_right hge, hjn, hl, Nat.sub_self] at hj
      have : y = p := by simpa using hj
      rw [hjn, ← this]
      exact hq
theorem opens_slice {e : TypeId} {α : Type} {d : Kd α} {wf : α → Prop} (ht : P.underlying t = some (.slice e)) (hsz : P.cellsOf e = d.sz) (h : ∀ n, n < fuel → Opens P e d wf n) :
    Opens P t (Kd.slice e d) (fun ys => ys.length ≤ maxLen ∧ ∀ y ∈ ys, wf y) fuel := by
  refine ⟨?_⟩
  intro H enc W base spare held cs x hx
  rcases DataW.trod_slice ht hx with ⟨rfl, _⟩ | ⟨a, len, cap, elems, rest, n, hn, rfl, _, _, hl, hm, hlen, hel, _, _⟩
  · exact ⟨[], ⟨none, 0, rfl, Nat.le_refl _, rfl, by simp, fun h => absurd h (Nat.lt_irrefl _)⟩, by simp, fun y hy => by cases hy⟩
  · obtain ⟨ys, hyl, hy⟩ := list_choose (Q := fun i y => wf y ∧ ∃ c, c.length = d.sz ∧ d.K W y c ∧ ∀ q u, c[q]? = some u → W.cell? (a.add (i * d.sz + q)) = some u) len (fun i hi => by
      have h1 := hel i hi
      rw [List.getElem?_eq_getElem (by omega)] at h1
      obtain ⟨c, hc, ht⟩ := Option.bind_eq_some_iff.1 h1
      obtain ⟨y, hK, hw⟩ := (h n (by omega)).out ht
      obtain ⟨_, hcl, hcc⟩ := World.cells?_some hc
      refine ⟨y, hw, c, by rw [hcl, hsz], hK, fun q u hq => ?_⟩
      have hqlt : q < P.cellsOf e := by have := (List.getElem?_eq_some_iff.1 hq).1; omega
      have := hcc q hqlt
      rw [hq, hsz] at this
      rw [show a.add (i * d.sz + q) = (a.add (i * d.sz)).add q from (Addr.add_add _ _ _).symm]
      exact this)
    have hm' : len ≤ maxLen := Nat.le_trans hl hm
    have hmax : len ≤ 9223372036854775807 := by unfold maxLen at hm'; omega
    refine ⟨ys, ⟨some a, cap, by rw [hyl], by omega, rfl, by omega, fun _ => ⟨a, rfl, fun j p hj => (hy j p hj).2⟩⟩, by omega, fun y hmem => ?_⟩
    obtain ⟨j, hj, rfl⟩ := List.mem_iff_getElem.1 hmem
    exact (hy j _ (List.getElem?_eq_getElem hj)).1
theorem opensAt_one {f : Field} {o tot : Nat} {α : Type} {d : Kd α} {wf : α → Prop} (ho : f.offset = o) (hs : P.cellsOf f.type = tot) (h : Opens P f.type d wf fuel) : OpensAt P [f] o tot d wf fuel := by
  refine ⟨?_⟩
  intro H enc W base spare held cs hl hx
  obtain ⟨x, hx⟩ := hx 0 f rfl
  obtain ⟨y, hK, hw⟩ := h.out hx
  rw [ho, hs, List.take_of_length_le (by rw [List.length_drop]; omega)] at hK
  exact ⟨y, hK, hw⟩
theorem opensAt_cons {f : Field} {fs : List Field} {o s tot tot' : Nat} {α β : Type} {d : Kd α} {d' : Kd β} {wf : α → Prop} {wf' : β → Prop} (ho : f.offset = o) (hs : P.cellsOf f.type = s) (ht : tot = s + tot') (h : Opens P f.type d wf fuel)
    (h' : OpensAt P fs (o + s) tot' d' wf' fuel) : OpensAt P (f :: fs) o tot (Kd.pair d d') (fun p => wf p.1 ∧ wf' p.2) fuel := by
  refine ⟨?_⟩
  intro H enc W base spare held cs hl hx
  obtain ⟨x, hx0⟩ := hx 0 f rfl
  obtain ⟨y, hK, hw⟩ := h.out hx0
  obtain ⟨z, hK', hw'⟩ := h'.out (H := H) (enc := enc) (W := W) (base := base) (spare := spare) (held := held) (cs := cs) (by omega) (fun i g hg => hx (i + 1) g hg)
  rw [ho, hs] at hK
  refine ⟨(y, z), ⟨_, _, ?_, hK, hK'⟩, hw, hw'⟩
  rw [← List.drop_drop, List.take_append_drop]
theorem opens_struct {fs : Array Field} {tot : Nat} {α β : Type} {d : Kd α} {wf : α → Prop} (f : β → α) (g : α → β) (hfg : ∀ p, f (g p) = p) (ht : P.underlying t = some (.struct fs)) (hs : P.cellsOf t = tot) (h : ∀ n, n < fuel → OpensAt P fs.toList 0 tot d wf n) :
    Opens P t (Kd.iso d f) (fun y => wf (f y)) fuel := by
  refine ⟨?_⟩
  intro H enc W base spare held cs x hx
  obtain ⟨xs, n, hn, _, hl, hxl, hf⟩ := DataW.trod_struct ht hx
  obtain ⟨y, hK, hw⟩ := (h n (by omega)).out (H := H) (enc := enc) (W := W) (base := base) (spare := spare) (held := held) (cs := cs) (by omega) (fun i q hq => by
    have hq' : fs[i]? = some q := by simpa using hq
    have h1 := hf i q hq'
    have hlt : i < xs.length := by have := (Array.getElem?_eq_some_iff.1 hq').1; omega
    exact ⟨_, h1.trans (List.getElem?_eq_getElem hlt)⟩)
  refine ⟨g y, ?_, ?_⟩
  · show d.K W (f (g y)) cs
    rw [hfg]; exact hK
  · show wf (f (g y))
    rw [hfg]; exact hw
/-- A value's own form: what is no struct stands for itself, a struct is the row of its cells. -/
theorem opens_trod {H : Type} {enc : TypeId × Value → H} {W : World} {base : Nat} {spare : Nat → Bool} {held : Bool} {α : Type} {d : Kd α} {wf : α → Prop} (h : ∀ n, Opens P t d wf n) {v : Value} {x : DataW H} {p : List MemPlace} (hx : DataW.Trod enc P W base spare held t v x p) : ∃ y, d.K W y v.cells.toList ∧ wf y := by
  obtain ⟨n, hn⟩ := hx
  exact (h n).out hn
end Go.Proofs.Ytdegbnjnbpjdfaa.Open
