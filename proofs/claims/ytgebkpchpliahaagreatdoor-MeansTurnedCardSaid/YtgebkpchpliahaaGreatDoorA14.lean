/- Part 15 of the proof: an abstract machine that runs the program's code over plain values, its soundness, and what the functions tell of plain values. Conditions: those in each theorem. -/
import Derived.Test.YtgebkpchpliahaaGreatDoorA13
import Derived.Carry
set_option linter.unusedSectionVars false
namespace Go.Ab
open Go.RowKit (Below)
set_option linter.unusedVariables false
set_option linter.unusedSimpArgs false
variable [GL : Gl]
section
variable {c : Cfg} {t e : TypeId} {p : PV}
theorem Typed.int_inv {k : IntKind} (h : Typed c t p) (hk : (c.at_ t).k = .int k) : ∃ n, p = .int k n ∧ (Lit.int k n).wf = true := by
 cases h with
 | int t k' n h hw => rw [hk] at h; cases h; exact ⟨n, rfl, hw⟩
 | bool t b h => rw [hk] at h; cases h
 | str t s h => rw [hk] at h; cases h
 | slice t e xs h => rw [hk] at h; cases h
 | struct t fs ps h => rw [hk] at h; cases h
 | arr t e n ps h => rw [hk] at h; cases h
theorem Typed.slice_inv (h : Typed c t p) (hk : (c.at_ t).k = .slice e) : ∃ xs, p = .slice (c.sh e) xs ∧ xs.length ≤ maxLen ∧ ∀ x ∈ xs, Typed c e x := by
 cases h with
 | int t k' n h hw => rw [hk] at h; cases h
 | bool t b h => rw [hk] at h; cases h
 | str t s h => rw [hk] at h; cases h
 | slice t e xs h hl hx => rw [hk] at h; cases h; exact ⟨xs, rfl, hl, hx⟩
 | struct t fs ps h => rw [hk] at h; cases h
 | arr t e n ps h => rw [hk] at h; cases h
def zLp (c : Cfg) : List TypeId → List PV → Prop
 | [], [] => True
 | t :: ts, p :: ps => Typed c t p ∧ zLp c ts ps
 | _, _ => False
theorem zOI {c : Cfg} : ∀ {fs : List (TypeId × Nat)} {ps : List PV}, ps.length = fs.length → (∀ (i : Nat) (f : TypeId × Nat) (p : PV), fs[i]? = some f → ps[i]? = some p → Typed c f.1 p) → zLp c (fs.map (·.1)) ps
 | [], [], _, _ => trivial
 | [], _ :: _, h, _ => by simp at h
 | _ :: _, [], h, _ => by simp at h
 | f :: fs, p :: ps, h, k => ⟨k 0 f p rfl rfl, zOI (by simpa using h) fun i f p hf hp => k (i + 1) f p (by simpa using hf) (by simpa using hp)⟩
theorem Typed.struct_inv {fs : List (TypeId × Nat)} (h : Typed c t p) (hk : (c.at_ t).k = .struct fs) : ∃ ps : List PV, p = .agg (ps.flatMap PV.cells) ∧ zLp c (fs.map (·.1)) ps := by
 cases h with
 | int t k' n h hw => rw [hk] at h; cases h
 | bool t b h => rw [hk] at h; cases h
 | str t s h => rw [hk] at h; cases h
 | slice t e xs h => rw [hk] at h; cases h
 | struct t fs ps h hl hp => rw [hk] at h; cases h; exact ⟨ps, rfl, zOI hl hp⟩
 | arr t e n ps h => rw [hk] at h; cases h
theorem zH2 {a : TypeId} {ps : List PV} (h : zLp c [a] ps) : ∃ x, ps = [x] ∧ Typed c a x := by
 match ps, h with
 | [x], h => exact ⟨x, rfl, h.1⟩
theorem zAw {a : TypeId} {ts : List TypeId} {ps : List PV} (h : zLp c (a :: ts) ps) : ∃ x qs, ps = x :: qs ∧ Typed c a x ∧ zLp c ts qs := by
 match ps, h with
 | x :: qs, h => exact ⟨x, qs, rfl, h.1, h.2⟩
theorem zFV {α : Type} {Q : α → Prop} {f : α → PV} : ∀ {xs : List PV}, (∀ x ∈ xs, ∃ a, x = f a ∧ Q a) → ∃ l : List α, xs = l.map f ∧ ∀ a ∈ l, Q a
 | [], _ => ⟨[], rfl, by simp⟩
 | x :: xs, h => by
  obtain ⟨a, rfl, ha⟩ := h x (by simp)
  obtain ⟨l, rfl, hl⟩ := zFV (xs := xs) (fun y hy => h y (List.mem_cons_of_mem _ hy))
  exact ⟨a :: l, rfl, by simpa using ⟨ha, hl⟩⟩
end
end Go.Ab

namespace Go.Cf
open Go Go.Ab
set_option linter.unusedVariables false
theorem zGs {p : PV} (h : Typed cfg zKi p) : ∃ n : Int, p = .int .i64 n ∧ I64 n := by
 obtain ⟨n, rfl, hw⟩ := h.int_inv (k := .i64) (by kernel_rfl)
 exact ⟨n, rfl, zXo hw⟩
end Go.Cf

namespace Go.Cf
open Go Go.Ab
set_option linter.unusedVariables false
theorem zP6 {n : Nat} (h : n ≤ maxLen) : n ≤ 9223372036854775807 := h
theorem zLq {p : PV} (h : Typed cfg zKk p) : ∃ v : Val, p = v.pv ∧ VOk v := by
 obtain ⟨ps, rfl, hl⟩ := h.struct_inv (fs := [(zKi, 0), (zKi, 1)]) (by kernel_rfl)
 obtain ⟨x, qs, rfl, hx, hl⟩ := zAw hl
 obtain ⟨y, rfl, hy⟩ := zH2 hl
 obtain ⟨a, rfl, ha⟩ := zGs hx
 obtain ⟨b, rfl, hb⟩ := zGs hy
 exact ⟨⟨a, b⟩, rfl, ha, hb⟩
def Row0 (r : List Val) : Prop := r.length ≤ 9223372036854775807 ∧ ROk r
theorem zOJ {p : PV} (h : Typed cfg zKl p) : ∃ r : List Val, p = rowp r ∧ Row0 r := by
 obtain ⟨xs, rfl, hl, hx⟩ := h.slice_inv (e := zKk) (by kernel_rfl)
 obtain ⟨r, rfl, hr⟩ := zFV (Q := VOk) (f := Val.pv) (xs := xs) (fun x h => zLq (hx x h))
 exact ⟨r, rfl, zP6 (by simpa using hl), hr⟩
def Tab0 (t : List (List Val)) : Prop := t.length ≤ 9223372036854775807 ∧ ∀ r ∈ t, Row0 r
theorem zLN {p : PV} (h : Typed cfg zHq p) : ∃ t : List (List Val), p = tabp t ∧ Tab0 t := by
 obtain ⟨xs, rfl, hl, hx⟩ := h.slice_inv (e := zKl) (by kernel_rfl)
 obtain ⟨r, rfl, hr⟩ := zFV (Q := Row0) (f := rowp) (xs := xs) (fun x h => zOJ (hx x h))
 exact ⟨r, rfl, zP6 (by simpa using hl), hr⟩
theorem zMg {p : PV} (h : Typed cfg zMT p) : ∃ l : List Int, p = zAs l ∧ (l.length ≤ 9223372036854775807 ∧ ∀ n ∈ l, I64 n) := by
 obtain ⟨xs, rfl, hl, hx⟩ := h.slice_inv (e := zKi) (by kernel_rfl)
 obtain ⟨r, rfl, hr⟩ := zFV (Q := I64) (f := intp) (xs := xs) (fun x h => zGs (hx x h))
 exact ⟨r, rfl, zP6 (by simpa using hl), hr⟩
theorem zQT : ∀ {l : List Ex}, (∀ e ∈ l, e.lens ∧ e.vals) → Ex.lensL l ∧ Ex.valsL l
 | [], _ => ⟨trivial, trivial⟩
 | e :: r, h => by
  obtain ⟨a, b⟩ := zQT (l := r) fun x hx => h x (by simp [hx])
  obtain ⟨c, d⟩ := h e (by simp)
  exact ⟨⟨c, a⟩, d, b⟩
theorem zJS : ∀ (n : Nat) (p : PV), SizeOf.sizeOf p < n → Typed cfg zBg p → ∃ x : Ex, p = x.pv ∧ (x.lens ∧ x.vals)
 | 0, p, h, _ => by omega
 | n + 1, p, h, ht => by
  obtain ⟨ps, rfl, hl⟩ := ht.struct_inv (fs := [(zKi, 0), (zKi, 1), (zKk, 2), (zFx, 4)]) (by kernel_rfl)
  obtain ⟨x, qs, rfl, hx, hl⟩ := zAw hl
  obtain ⟨y, qs, rfl, hy, hl⟩ := zAw hl
  obtain ⟨z, qs, rfl, hz, hl⟩ := zAw hl
  obtain ⟨u, rfl, hu⟩ := zH2 hl
  obtain ⟨o, rfl, ho⟩ := zGs hx
  obtain ⟨c, rfl, hc⟩ := zGs hy
  obtain ⟨v, rfl, hv⟩ := zLq hz
  obtain ⟨xs, rfl, hlen, hxs⟩ := hu.slice_inv (e := zBg) (by kernel_rfl)
  obtain ⟨l, rfl, hlo⟩ := zFV (Q := fun e : Ex => e.lens ∧ e.vals) (f := Ex.pv) (xs := xs) (fun x hx => by
   have h1 := List.sizeOf_lt_of_mem hx
   refine zJS n x ?_ (hxs x hx)
   have h2 : SizeOf.sizeOf (PV.slice (cfg.sh zBg) xs) ≤ SizeOf.sizeOf (PV.agg (([PV.int .i64 o, PV.int .i64 c, v.pv, PV.slice (cfg.sh zBg) xs] : List PV).flatMap PV.cells)) := by
    have e : ([PV.int .i64 o, PV.int .i64 c, v.pv, PV.slice (cfg.sh zBg) xs] : List PV).flatMap PV.cells = [PV.int .i64 o, PV.int .i64 c, .int .i64 v.K, .int .i64 v.N, PV.slice (cfg.sh zBg) xs] := rfl
    rw [e]
    simp only [PV.agg.sizeOf_spec, List.cons.sizeOf_spec, List.nil.sizeOf_spec]
    omega
   have h3 : SizeOf.sizeOf (PV.slice (cfg.sh zBg) xs) = 1 + SizeOf.sizeOf (cfg.sh zBg) + SizeOf.sizeOf xs := by simp
   omega)
  obtain ⟨a, b⟩ := zQT hlo
  refine ⟨.mk o c v l, ?_, ⟨zP6 (by simpa using hlen), a⟩, hv, b⟩
  rw [Ex.pv_mk]
  rfl
theorem zP7 {p : PV} (h : Typed cfg zBg p) : ∃ x : Ex, p = x.pv ∧ (x.lens ∧ x.vals) := zJS _ p (Nat.lt_succ_self _) h
theorem zMh {p : PV} (h : Typed cfg zFx p) : ∃ l : List Ex, p = exsp l ∧ (l.length ≤ 9223372036854775807 ∧ ∀ e ∈ l, e.lens ∧ e.vals) := by
 obtain ⟨xs, rfl, hl, hx⟩ := h.slice_inv (e := zBg) (by kernel_rfl)
 obtain ⟨r, rfl, hr⟩ := zFV (Q := fun e : Ex => e.lens ∧ e.vals) (f := Ex.pv) (xs := xs) (fun x h => zP7 (hx x h))
 exact ⟨r, rfl, zP6 (by simpa using hl), hr⟩
theorem zRe {p : PV} (h : Typed cfg zNa p) : ∃ v : Def, p = v.pv ∧ True := by
 obtain ⟨ps, rfl, hl⟩ := h.struct_inv (fs := [(zKi, 0), (zKi, 1)]) (by kernel_rfl)
 obtain ⟨x, qs, rfl, hx, hl⟩ := zAw hl
 obtain ⟨y, rfl, hy⟩ := zH2 hl
 obtain ⟨a, rfl, ha⟩ := zGs hx
 obtain ⟨b, rfl, hb⟩ := zGs hy
 exact ⟨⟨a, b⟩, rfl, trivial⟩
theorem zRf {p : PV} (h : Typed cfg zSq p) : ∃ T : List Def, p = catp T ∧ T.length ≤ 9223372036854775807 := by
 obtain ⟨ps, rfl, hl⟩ := h.struct_inv (fs := [(zOv, 0)]) (by kernel_rfl)
 obtain ⟨y, rfl, hy⟩ := zH2 hl
 obtain ⟨xs, rfl, hlen, hx⟩ := hy.slice_inv (e := zNa) (by kernel_rfl)
 obtain ⟨T, rfl, _⟩ := zFV (Q := fun _ => True) (f := Def.pv) (xs := xs) (fun x h => zRe (hx x h))
 exact ⟨T, rfl, zP6 (by simpa using hlen)⟩
theorem zP8 {p : PV} (h : Typed cfg zRE p) : ∃ D : List (List (List Val)), p = zGK D ∧ DOk D ∧ ∀ t ∈ D, ∀ r ∈ t, ROk r := by
 obtain ⟨ps, rfl, hl⟩ := h.struct_inv (fs := [(zKj, 0)]) (by kernel_rfl)
 obtain ⟨y, rfl, hy⟩ := zH2 hl
 obtain ⟨xs, rfl, hlen, hx⟩ := hy.slice_inv (e := zHq) (by kernel_rfl)
 obtain ⟨D, rfl, hD⟩ := zFV (Q := Tab0) (f := tabp) (xs := xs) (fun x h => zLN (hx x h))
 exact ⟨D, rfl, ⟨zP6 (by simpa using hlen), fun t ht => (hD t ht).1, fun t ht r hr => ((hD t ht).2 r hr).1⟩, fun t ht r hr => ((hD t ht).2 r hr).2⟩
structure QIn where
 (occ : List Int) (P : List Ex) (by_ : Int) (sums out : List Int) (ord : Int)
def QIn.pv (q : QIn) : PV := zBm q.occ (q.P.map Ex.pv) q.by_ q.sums q.out q.ord
def zW2 (l : List Int) : Prop := l.length ≤ 9223372036854775807 ∧ ∀ n ∈ l, I64 n
structure QIn.Ok (q : QIn) : Prop where
 occ : zW2 q.occ
 P : q.P.length ≤ 9223372036854775807 ∧ ∀ e ∈ q.P, e.lens ∧ e.vals
 by_ : I64 q.by_
 sums : zW2 q.sums
 out : zW2 q.out
 ord : I64 q.ord
theorem zOK {p : PV} (h : Typed cfg zOw p) : ∃ q : QIn, p = q.pv ∧ q.Ok := by
 obtain ⟨ps, rfl, hl⟩ := h.struct_inv (fs := [(zMT, 0), (zFx, 1), (zKi, 2), (zMT, 3), (zMT, 4), (zKi, 5)]) (by kernel_rfl)
 obtain ⟨x, qs, rfl, hx, hl⟩ := zAw hl
 obtain ⟨y, qs, rfl, hy, hl⟩ := zAw hl
 obtain ⟨z, qs, rfl, hz, hl⟩ := zAw hl
 obtain ⟨u, qs, rfl, hu, hl⟩ := zAw hl
 obtain ⟨v, qs, rfl, hv, hl⟩ := zAw hl
 obtain ⟨w, rfl, hw⟩ := zH2 hl
 obtain ⟨a, rfl, ha⟩ := zMg hx
 obtain ⟨ps, rfl, hpl, hp⟩ := zMh hy
 obtain ⟨b, rfl, hb⟩ := zGs hz
 obtain ⟨s, rfl, hs⟩ := zMg hu
 obtain ⟨o, rfl, ho⟩ := zMg hv
 obtain ⟨d, rfl, hd⟩ := zGs hw
 exact ⟨⟨a, ps, b, s, o, d⟩, rfl, ha, ⟨hpl, hp⟩, hb, hs, ho, hd⟩
theorem zJT : ∀ (n : Nat) (p : PV), SizeOf.sizeOf p < n → Typed cfg zEq p → ∃ x : Tree, p = x.pv ∧ x.Ok
 | 0, p, h, _ => by omega
 | n + 1, p, h, ht => by
  obtain ⟨ps, rfl, hl⟩ := ht.struct_inv (fs := [(zKi, 0), (zN9, 1)]) (by kernel_rfl)
  obtain ⟨x, qs, rfl, hx, hl⟩ := zAw hl
  obtain ⟨y, rfl, hy⟩ := zH2 hl
  obtain ⟨o, rfl, ho⟩ := zGs hx
  obtain ⟨xs, rfl, hlen, hxs⟩ := hy.slice_inv (e := zEq) (by kernel_rfl)
  obtain ⟨l, rfl, hlo⟩ := zFV (Q := Tree.Ok) (f := Tree.pv) (xs := xs) (fun x hx => by
   have h1 := List.sizeOf_lt_of_mem hx
   refine zJT n x ?_ (hxs x hx)
   have h2 : SizeOf.sizeOf (PV.agg (([PV.int .i64 o, PV.slice (cfg.sh zEq) xs] : List PV).flatMap PV.cells)) = 1 + (1 + SizeOf.sizeOf (PV.int .i64 o) + (1 + (1 + SizeOf.sizeOf (cfg.sh zEq) + SizeOf.sizeOf xs) + 1)) := by
    simp [PV.cells, List.flatMap_cons]
   omega)
  refine ⟨.mk o l, ?_, .mk _ _ ho (by simpa using hlen) hlo⟩
  rw [Tree.pv_mk]
  rfl
theorem zH3 {p : PV} (h : Typed cfg zEq p) : ∃ x : Tree, p = x.pv ∧ x.Ok := zJT _ p (Nat.lt_succ_self _) h
end Go.Cf

namespace Go.Cf
open Go Go.Ab
set_option linter.unusedVariables false
set_option linter.unusedSimpArgs false
theorem few3 (D : List (List (List Val))) (i : Nat) (hi : i < D.length) (hD : DOk D) (next : ∀ b, ∃ r, zAT (D.map tabp) b ((i : Int) + 1) = some (.bool r)) : ∀ (k j : Nat) (b : Bool), j + k = D[i].length → ∃ r, zBL (D.map tabp) b (i : Int) (j : Int) = some (.bool r)
 | 0, j, b, h => by
  have := hD.len
  obtain ⟨r, hr⟩ := next b
  refine ⟨r, ?_⟩
  rw [zC6, show j = D[i].length by omega]
  simp only [zAM, cond_true, Int.toNat_natCast, List.getElem?_map, List.getElem?_eq_getElem hi, Option.map_some, Option.bind_some, zKr, List.length_map, zCt, cond_false]
  rw [zA3 (by omega) (by omega)]
  exact hr
 | k + 1, j, b, h => by
  have := hD.len
  have hj : j < D[i].length := by omega
  have := hD.tab _ (List.getElem_mem hi)
  rw [zC6]
  simp only [zAM, cond_true, Int.toNat_natCast, List.getElem?_map, List.getElem?_eq_getElem hi, Option.map_some, Option.bind_some, zKr, List.length_map, zAZ hj]
  cases b with
  | true =>
   simp only [cond_true, zEv, zAM, Int.toNat_natCast, List.getElem?_map, List.getElem?_eq_getElem hi, List.getElem?_eq_getElem hj, Option.map_some, Option.bind_some, zKr, zGH]
   rw [zP (by omega)]
   exact few3 D i hi hD next k (j + 1) _ (by omega)
  | false =>
   simp only [cond_false]
   rw [zA3 (by omega) (by omega)]
   exact next false
theorem few1 (D : List (List (List Val))) (hD : DOk D) : ∀ (k i : Nat) (b : Bool), i + k = D.length → ∃ r, zAT (D.map tabp) b (i : Int) = some (.bool r)
 | 0, i, b, h => by
  rw [zC5, show i = D.length by omega]
  exact ⟨b, by simp⟩
 | k + 1, i, b, h => by
  have hi : i < D.length := by omega
  rw [zC5]
  simp only [List.length_map, zAZ hi, cond_true]
  cases b with
  | true =>
   simp only [cond_true, zEu, zAM, Int.toNat_natCast, List.getElem?_map, List.getElem?_eq_getElem hi, Option.map_some, Option.bind_some, zKr]
   exact few3 D i hi hD (fun b => few1 D hD k (i + 1) b (by omega)) D[i].length 0 _ (by omega)
  | false => exact ⟨false, rfl⟩
theorem zW3 (D : List (List (List Val))) (hD : DOk D) : ∃ r, wc W zCV [zGK D] = some (.bool r) := by
 have h := zHW (D.map tabp)
 rw [zA7] at h
 rw [h]
 exact few1 D hD D.length 0 _ (by omega)
theorem few5 (occ : List PV) (P : List Ex) (by_ : Int) (sums out : List PV) (ord : Int) (hP : P.length ≤ 9223372036854775807) (he : ∀ e ∈ P, e.lens) : ∀ (k i : Nat) (b : Bool), i + k = P.length →
 zBK occ (P.map Ex.pv) by_ sums out ord b (i : Int) = some (.bool (b && (P.drop i).all fun e => decide (e.sz ≤ 60)))
 | 0, i, b, h => by
  rw [zC4, show i = P.length by omega]
  simp
 | k + 1, i, b, h => by
  have hi : i < P.length := by omega
  rw [zC4]
  simp only [List.length_map, zAZ hi, cond_true]
  cases b with
  | false => rfl
  | true =>
   simp only [cond_true, zEt, zAM, Int.toNat_natCast, List.getElem?_map, List.getElem?_eq_getElem hi, Option.map_some, Option.bind_some, Ex.c_mk, Ex.fold, zYK _ (he _ (List.getElem_mem hi)), c_b_mk]
   rw [zP (by omega), few5 occ P by_ sums out ord hP he k (i + 1) _ (by omega), List.drop_eq_getElem_cons hi, List.all_cons]
   rfl
theorem zW4 (T : List Def) (q : QIn) (hq : q.Ok) : ∃ b, wc W zAv [catp T, q.pv] = some (.bool b) ∧ (b = true → q.P.length ≤ 8 ∧ q.sums.length ≤ 20 ∧ q.out.length ≤ 20 ∧ ∀ e ∈ q.P, e.sz ≤ 60) := by
 obtain ⟨occ, P, by_, sums, out, ord⟩ := q
 have h := zHV (T.map Def.pv) (occ.map intp) (P.map Ex.pv) by_ (sums.map intp) (out.map intp) ord
 simp only [zAA, zA, zAH, List.length_map] at h
 have h5 := few5 (occ.map intp) P by_ (sums.map intp) (out.map intp) ord hq.P.1 (fun e he => (hq.P.2 e he).1) P.length 0
 have hj : ∀ b, zZ (occ.map intp) (P.map Ex.pv) by_ (sums.map intp) (out.map intp) ord b = some (.bool (b && P.all fun e => decide (e.sz ≤ 60))) := fun b => by
  rw [zEs]
  have := h5 b (by omega)
  simpa using this
 show ∃ b, wc W zAv [catp T, zBm occ (P.map Ex.pv) by_ sums out ord] = some (.bool b) ∧ _
 rw [h]
 simp only [hj]
 rw [show decide (((P.length : Nat) : Int) ≤ 8) = decide (P.length ≤ 8) from decide_eq_decide.2 (by omega), show decide (((sums.length : Nat) : Int) ≤ 20) = decide (sums.length ≤ 20) from decide_eq_decide.2 (by omega), show decide (((out.length : Nat) : Int) ≤ 20) = decide (out.length ≤ 20) from decide_eq_decide.2 (by omega)]
 refine ⟨decide (((T.length : Nat) : Int) ≤ 10) && (decide (((occ.length : Nat) : Int) ≤ 20) && (decide (P.length ≤ 8) && (decide (sums.length ≤ 20) && (decide (out.length ≤ 20) && P.all fun e => decide (e.sz ≤ 60))))), ?_, fun hb => ?_⟩
 ·cases decide (((T.length : Nat) : Int) ≤ 10) <;> cases decide (((occ.length : Nat) : Int) ≤ 20) <;> cases decide (P.length ≤ 8) <;> cases decide (sums.length ≤ 20) <;> rfl
 ·simp only [Bool.and_eq_true, decide_eq_true_eq, List.all_eq_true] at hb
  exact ⟨hb.2.2.1, hb.2.2.2.1, hb.2.2.2.2.1, hb.2.2.2.2.2⟩
theorem zW5 (T : List Def) (D : List (List (List Val))) (hD : DOk D) (q : QIn) (hq : q.Ok) : ∃ b, wc W zAu [catp T, zGK D, q.pv] = some (.bool b) ∧ (b = true → q.P.length ≤ 8 ∧ q.sums.length ≤ 20 ∧ q.out.length ≤ 20 ∧ ∀ e ∈ q.P, e.sz ≤ 60) := by
 obtain ⟨b, h1, h2⟩ := zW4 T q hq
 obtain ⟨r, h3⟩ := zW3 D hD
 obtain ⟨occ, P, by_, sums, out, ord⟩ := q
 have e1 := zHQ (T.map Def.pv) (D.map tabp) (occ.map intp) (P.map Ex.pv) by_ (sums.map intp) (out.map intp) ord
 have e2 := zHR (T.map Def.pv) (occ.map intp) (P.map Ex.pv) by_ (sums.map intp) (out.map intp) ord
 have e3 := zHS (D.map tabp)
 simp only [zAA, zA7, zA, zAH] at e1 e2 e3
 have h1' : wc W zAv [catp T, zBm occ (P.map Ex.pv) by_ sums out ord] = some (.bool b) := h1
 rw [h1'] at e2
 rw [h3] at e3
 simp only [Option.bind_some, c_b_mk] at e2 e3
 show ∃ b, wc W zAu [catp T, zGK D, zBm occ (P.map Ex.pv) by_ sums out ord] = some (.bool b) ∧ _
 rw [e1, e2, e3]
 cases b with
 | false => exact ⟨false, by cases r <;> rfl, fun h => by cases h⟩
 | true => cases r with
  | false => exact ⟨false, rfl, fun h => by cases h⟩
  | true => exact ⟨true, rfl, fun _ => h2 rfl⟩
theorem zV4 (D : List (List (List Val))) (n : Int) (hD : D.length ≤ 9223372036854775807) : ∀ (k i : Nat), i + k = D.length → ∃ z, zAo (D.map tabp) n (i : Int) = some (.int .i64 z)
 | 0, i, h => ⟨0, by rw [zCF, show i = D.length by omega]; simp⟩
 | k + 1, i, h => by
  have hi : i < D.length := by omega
  rw [zCF]
  simp only [List.length_map, zAZ hi, zAM, cond_true, Int.toNat_natCast, List.getElem?_map, List.getElem?_eq_getElem hi, Option.map_some, Option.bind_some, zKr]
  rw [zP (by omega)]
  cases decide (((D[i].length : Nat) : Int) > n) with
  | true => exact ⟨1, rfl⟩
  | false => exact zV4 D n hD k (i + 1) (by omega)
theorem zW6 (D : List (List (List Val))) (hD : DOk D) (occ : List Int) (P : List PV) (by_ : Int) (sums out : List Int) (ord : Int) : ∃ z, wc W zBr [zGK D, zBm occ P by_ sums out ord] = some (.int .i64 z) := by
 have h := zFz (D.map tabp) (occ.map intp) P by_ (sums.map intp) (out.map intp) ord
 simp only [zA7, zA, zAH] at h
 rw [h]
 have hl : D.length ≤ 9223372036854775807 := hD.1
 have j : ∀ n, ∃ z, zAn (D.map tabp) n = some (.int .i64 z) := fun n => by
  rw [zEO]; exact zV4 D n hl D.length 0 (by omega)
 cases decide ((((occ.map intp).length : Nat) : Int) > 3) with
 | true => exact j 3
 | false => exact j 5
end Go.Cf

namespace Go.Cf
open Go Go.Ab
theorem zUv : wc W zDM [] = some (.bool true) := by rw [W_eq]; exact zWm (zOr 60) (by kernel_rfl)
end Go.Cf

namespace Go.Cf
open Go Go.Ab
set_option linter.unusedVariables false
set_option linter.unusedSimpArgs false
abbrev CM := List (ByteArray × Int)
def mpC (m : CM) : List (PV × PV) := m.map fun x => (PV.str x.1, PV.int .i64 x.2)
def getC (k : ByteArray) : CM → Option Int
 | [] => none
 | x :: r => bif k.toList == x.1.toList then some x.2 else getC k r
def putC (k : ByteArray) (v : Int) : CM → CM
 | [] => [(k, v)]
 | x :: r => bif k.toList == x.1.toList then (k, v) :: r else x :: putC k v r
theorem eqS (a b : ByteArray) : eqP cfg 6 9 (.str a) (.str b) = some (a.toList == b.toList) := by rfl
theorem zMi (k : ByteArray) : ∀ (m : CM), zLB (eqP cfg 6 9) (.str k) (mpC m) = some ((getC k m).map (PV.int .i64))
 | [] => rfl
 | x :: r => by
  show zLB (eqP cfg 6 9) (.str k) ((PV.str x.1, PV.int .i64 x.2) :: mpC r) = _
  simp only [zLB, eqS, Option.bind_some, getC]
  cases k.toList == x.1.toList with
  | true => rfl
  | false => exact zMi k r
theorem zP9 (k : ByteArray) (v : Int) : ∀ (m : CM), mput (eqP cfg 6 9) (.str k) (.int .i64 v) (mpC m) = some (mpC (putC k v m))
 | [] => rfl
 | x :: r => by
  show mput (eqP cfg 6 9) (.str k) (.int .i64 v) ((PV.str x.1, PV.int .i64 x.2) :: mpC r) = _
  simp only [mput, eqS, Option.bind_some, putC]
  cases h : k.toList == x.1.toList with
  | true =>
   have h' : zLr (.str x.1) (.str k) = true := by
    show (x.1.toList == k.toList) = true
    rw [beq_iff_eq] at h ⊢; exact h.symm
   rw [h']; rfl
  | false =>
   simp only [cond_false, zP9 k v r, Option.bind_some]; rfl
theorem zQU : ∀ (m : CM), zMy (mpC m) = some (m.all fun x => x.2 == 0)
 | [] => rfl
 | x :: r => by
  show (zMy (mpC r)).map (fun b => (x.2 == 0) && b) = _
  rw [zQU r]; rfl
def getL (L : List UInt8) : CM → Int
 | [] => 0
 | x :: r => if L = x.1.toList then x.2 else getL L r
theorem zOL (k : ByteArray) : ∀ (m : CM), (getC k m).getD 0 = getL k.toList m
 | [] => rfl
 | x :: r => by
  simp only [getC, getL]
  by_cases h : k.toList = x.1.toList
  ·rw [if_pos h, show (k.toList == x.1.toList) = true by rw [h]; exact beq_self_eq_true _]; rfl
  ·rw [if_neg h, show (k.toList == x.1.toList) = false by simpa using h]
   exact zOL k r
theorem zQV (L : List UInt8) (k : ByteArray) (v : Int) : ∀ (m : CM), getL L (putC k v m) = if L = k.toList then v else getL L m
 | [] => rfl
 | x :: r => by
  simp only [putC]
  by_cases h : k.toList = x.1.toList
  ·rw [show (k.toList == x.1.toList) = true by rw [h]; exact beq_self_eq_true _]
   simp only [cond_true, getL, ← h]
   by_cases hL : L = k.toList
   ·rw [if_pos hL, if_pos hL]
   ·rw [if_neg hL, if_neg hL, if_neg hL]
  ·rw [show (k.toList == x.1.toList) = false by simpa using h]
   simp only [cond_false, getL, zQV L k v r]
   by_cases hx : L = x.1.toList
   ·rw [if_pos hx]
    rw [if_neg (fun e => h (e.symm.trans hx)), if_pos hx]
   ·rw [if_neg hx, if_neg hx]
def zFW (m : CM) : List (List UInt8) := m.map fun x => x.1.toList
theorem zMj (k : ByteArray) (v : Int) : ∀ (m : CM), (zFW m).Nodup → (zFW (putC k v m)).Nodup ∧ ∀ L, L ∈ zFW (putC k v m) → L = k.toList ∨ L ∈ zFW m
 | [], _ => ⟨by simp [putC, zFW], fun L h => by simp [putC, zFW] at h; exact .inl h⟩
 | x :: r, h => by
  simp only [putC]
  have h2 := List.nodup_cons.1 (show (x.1.toList :: zFW r).Nodup from h)
  by_cases e : k.toList = x.1.toList
  ·rw [show (k.toList == x.1.toList) = true by rw [e]; exact beq_self_eq_true _]
   simp only [cond_true]
   refine ⟨?_, fun L hL => ?_⟩
   ·show (k.toList :: zFW r).Nodup
    rw [e]; exact h
   ·rcases List.mem_cons.1 (show L ∈ k.toList :: zFW r from hL) with h3 | h3
    ·exact .inl h3
    ·exact .inr (List.mem_cons.2 (.inr h3))
  ·rw [show (k.toList == x.1.toList) = false by simpa using e]
   obtain ⟨i1, i2⟩ := zMj k v r h2.2
   simp only [cond_false]
   refine ⟨?_, fun L hL => ?_⟩
   ·refine List.nodup_cons.2 ⟨fun hm => ?_, i1⟩
    rcases i2 _ hm with h3 | h3
    ·exact e h3.symm
    ·exact h2.1 h3
   ·rcases List.mem_cons.1 (show L ∈ x.1.toList :: zFW (putC k v r) from hL) with h3 | h3
    ·exact .inr (List.mem_cons.2 (.inl h3))
    ·rcases i2 _ h3 with h4 | h4
     ·exact .inl h4
     ·exact .inr (List.mem_cons.2 (.inr h4))
theorem zQW : ∀ (m : CM), (zFW m).Nodup → ((m.all fun x => x.2 == 0) = true ↔ ∀ L, getL L m = 0)
 | [], _ => by simp [getL]
 | x :: r, h => by
  have h2 := List.nodup_cons.1 (show (x.1.toList :: zFW r).Nodup from h)
  have ih := zQW r h2.2
  simp only [List.all_cons, Bool.and_eq_true, beq_iff_eq, getL]
  constructor
  ·rintro ⟨a, b⟩ L
   split
   ·exact a
   ·exact ih.1 b L
  ·intro hall
   refine ⟨?_, ih.2 fun L => ?_⟩
   ·have := hall x.1.toList
    rwa [if_pos rfl] at this
   ·by_cases hm : L = x.1.toList
    ·have none : ∀ (l : CM), L ∉ zFW l → getL L l = 0 := by
      intro l
      induction l with
      | nil => intro _; rfl
      | cons y l ihl =>
       intro hn
       simp only [getL]
       rw [if_neg (fun e => hn (by rw [e]; simp [zFW])), ihl (fun e => hn (List.mem_cons.2 (.inr e)))]
     exact none r (by rw [hm]; exact h2.1)
    ·have := hall L
     rwa [if_neg hm] at this
def txt (r : List Val) : ByteArray := zUO (r.map fun v => (v.K, v.N))
def tL (r : List Val) : List UInt8 := (txt r).toList
theorem zOM : ∀ (r : List Val), ROk r → zJK (r.map Val.pv) = some (r.map fun v => (v.K, v.N))
 | [], _ => rfl
 | v :: r, h => by
  have hv := h v (by simp)
  have h1 : (inI v.K && inI v.N) = true := by
   unfold inI
   rw [decide_eq_true hv.1.1, decide_eq_true hv.1.2, decide_eq_true hv.2.1, decide_eq_true hv.2.2]; rfl
  show (bif inI v.K && inI v.N then (zJK (r.map Val.pv)).bind fun l => some ((v.K, v.N) :: l) else none) = _
  rw [h1, zOM r (fun x hx => h x (by simp [hx]))]; rfl
theorem zV5 (r : List Val) (h : ROk r) (hl : r.length ≤ 1000000) : wc W zG2 [rowp r] = some (.str (txt r)) := zRF (r.map Val.pv) _ (zOM r h) (by rw [List.length_map]; exact hl)
def add1 (k : ByteArray) (d : Int) (m : CM) : CM := putC k ((getC k m).getD 0 + d) m
def zLO : List (List Val) → List (List Val) → CM → CM
 | x :: r, y :: s, m => zLO r s (add1 (txt y) (-1) (add1 (txt x) 1 m))
 | _, _, m => m
def bnd (m : CM) (B : Nat) : Prop := ∀ x ∈ m, -(B : Int) ≤ x.2 ∧ x.2 ≤ B
theorem zJt (k : ByteArray) (B : Nat) : ∀ (m : CM), bnd m B → -(B : Int) ≤ (getC k m).getD 0 ∧ (getC k m).getD 0 ≤ B
 | [], _ => by simp [getC]
 | x :: r, h => by
  simp only [getC]
  cases k.toList == x.1.toList with
  | true => exact h x (by simp)
  | false => exact zJt k B r (fun y hy => h y (by simp [hy]))
theorem zQX (k : ByteArray) (v : Int) (B : Nat) (hv : -(B : Int) ≤ v ∧ v ≤ B) : ∀ (m : CM), bnd m B → bnd (putC k v m) B
 | [], _ => fun x hx => by simp [putC] at hx; subst hx; exact hv
 | x :: r, h => fun y hy => by
  simp only [putC] at hy
  cases he : k.toList == x.1.toList with
  | true =>
   rw [he] at hy
   rcases List.mem_cons.1 hy with rfl | hy
   ·exact hv
   ·exact h y (by simp [hy])
  | false =>
   rw [he] at hy
   rcases List.mem_cons.1 hy with rfl | hy
   ·exact h _ (by simp)
   ·exact zQX k v B hv r (fun z hz => h z (by simp [hz])) y hy
theorem zQY (k : ByteArray) (d : Int) (hd : -1 ≤ d ∧ d ≤ 1) (m : CM) (B : Nat) (h : bnd m B) : bnd (add1 k d m) (B + 1) := by
 have h1 := zJt k B m h
 exact zQX k _ (B + 1) (by omega) m (fun x hx => by have := h x hx; omega)
theorem zON (c d : List PV) (r s : List (List Val)) (e : r.length = s.length) (hr : r.length ≤ 1000000000) (h1 : ∀ x ∈ r, ROk x ∧ x.length ≤ 1000000) (h2 : ∀ x ∈ s, ROk x ∧ x.length ≤ 1000000) :
 ∀ (k i : Nat) (m : CM), i + k = r.length → bnd m (2 * i) → zE3 c (r.map rowp) d (s.map rowp) (r.length : Int) (i : Int) (mpC m) = some (.bool ((zLO (r.drop i) (s.drop i) m).all fun x => x.2 == 0))
 | 0, i, m, h, hb => by
  rw [zFy, show i = r.length by omega]
  simp only [zCt, cond_false, zQU, Option.bind_some, List.drop_length, zLO]
 | k + 1, i, m, h, hb => by
  have hi : i < r.length := by omega
  have hi' : i < s.length := by omega
  obtain ⟨a1, a2⟩ := h1 r[i] (List.getElem_mem hi)
  obtain ⟨b1, b2⟩ := h2 s[i] (List.getElem_mem hi')
  have hb1 := zQY (txt r[i]) 1 (by omega) m _ hb
  have hb2 := zQY (txt s[i]) (-1) (by omega) _ _ hb1
  have g1 := zJt (txt r[i]) _ m hb
  have g2 := zJt (txt s[i]) _ _ hb1
  rw [zFy, List.drop_eq_getElem_cons hi, List.drop_eq_getElem_cons hi', zLO]
  have o1 : ∀ (o : Option Int) (x : Int), -9223372036854775808 ≤ o.getD 0 + x → o.getD 0 + x ≤ 9223372036854775807 → intP .add ((o.map (PV.int .i64)).getD (.int .i64 0)) (.int .i64 x) = some (.int .i64 (o.getD 0 + x)) := fun o x q1 q2 => by
   cases o with
   | none => show some (PV.int .i64 (IntKind.wrap .i64 (0 + x))) = _; rw [zA3 (by simpa using q1) (by simpa using q2)]; rfl
   | some v => show some (PV.int .i64 (IntKind.wrap .i64 (v + x))) = _; rw [zA3 (by simpa using q1) (by simpa using q2)]; rfl
  have o2 : ∀ (o : Option Int) (x : Int), -9223372036854775808 ≤ o.getD 0 - x → o.getD 0 - x ≤ 9223372036854775807 → intP .sub ((o.map (PV.int .i64)).getD (.int .i64 0)) (.int .i64 x) = some (.int .i64 (o.getD 0 - x)) := fun o x q1 q2 => by
   cases o with
   | none => show some (PV.int .i64 (IntKind.wrap .i64 (0 - x))) = _; rw [zA3 (by simpa using q1) (by simpa using q2)]; rfl
   | some v => show some (PV.int .i64 (IntKind.wrap .i64 (v - x))) = _; rw [zA3 (by simpa using q1) (by simpa using q2)]; rfl
  simp only [zAZ hi, zAM, cond_true, Int.toNat_natCast, List.getElem?_map, List.getElem?_eq_getElem hi, List.getElem?_eq_getElem hi', Option.map_some, Option.bind_some, zGH, zR, zV5 _ a1 a2, zV5 _ b1 b2, c_t_mk, zMi, c_i64_mk]
  rw [o1 _ 1 (by omega) (by omega)]
  simp only [Option.bind_some, c_i64_mk, zP9, zMi]
  have e1 : putC (txt r[i]) ((getC (txt r[i]) m).getD 0 + 1) m = add1 (txt r[i]) 1 m := rfl
  rw [e1, o2 _ 1 (by omega) (by omega)]
  simp only [Option.bind_some, c_i64_mk, zP9]
  have e2 : putC (txt s[i]) ((getC (txt s[i]) (add1 (txt r[i]) 1 m)).getD 0 - 1) (add1 (txt r[i]) 1 m) = add1 (txt s[i]) (-1) (add1 (txt r[i]) 1 m) := rfl
  rw [e2, zP (by omega)]
  have hb3 : bnd (add1 (txt s[i]) (-1) (add1 (txt r[i]) 1 m)) (2 * (i + 1)) := hb2
  exact zON c d r s e hr h1 h2 k (i + 1) _ (by omega) hb3
theorem zRg (a b : List Int) (ha : a.length ≤ 9223372036854775807) : wc W zBh [zAs a, zAs b] = some (.bool (decide (a = b))) := by
 have h := zF9 (a.map intp) (b.map intp)
 rw [zA, zA] at h
 rw [h, List.length_map, List.length_map]
 by_cases e : a.length = b.length
 ·rw [zTF (by omega)]
  simp only [cond_false]
  refine zTI (fun i => zAe (a.map intp) (b.map intp) a.length i) a b e (some (.bool false)) (some (.bool true)) (fun i hi hi' => ?_) ?_ |>.trans ?_
  ·rw [zBv]
   simp only [zAZ hi, zAM, cond_true, Int.toNat_natCast, List.getElem?_map, List.getElem?_eq_getElem hi, List.getElem?_eq_getElem hi', Option.map_some, Option.bind_some, zGq]
   by_cases he : a[i] = b[i]
   ·rw [zTF he, decide_eq_true he, zA3 (by omega) (by omega)]; rfl
   ·rw [zNp he, decide_eq_false he]; rfl
  ·rw [zBv]; simp
  ·cases decide (a = b) <;> rfl
 ·rw [zNp (by omega), decide_eq_false (fun h => e (by rw [h]))]; rfl
def zUw (c : List Int) (r : List (List Val)) (d : List Int) (s : List (List Val)) : Bool := decide (c = d) && decide (r.length = s.length) && (zLO r s []).all fun x => x.2 == 0
theorem zV6 (c : List Int) (r : List (List Val)) (d : List Int) (s : List (List Val)) (hc : c.length ≤ 9223372036854775807) (hr : r.length ≤ 1000000000) (hs : s.length ≤ 1000000000) (h1 : ∀ x ∈ r, ROk x ∧ x.length ≤ 1000000) (h2 : ∀ x ∈ s, ROk x ∧ x.length ≤ 1000000) :
 wc W zDh [bagp c r, bagp d s] = some (.bool (zUw c r d s)) := by
 have h := zRG (c.map intp) (r.map rowp) (d.map intp) (s.map rowp)
 rw [zA, zA, zAN, zAN, zAX, zAX, zRg c d hc] at h
 rw [h]
 unfold zUw
 simp only [Option.bind_some, c_b_mk, List.length_map]
 cases decide (c = d) with
 | false => rfl
 | true =>
  by_cases e : r.length = s.length
  ·rw [zTF (by omega), decide_eq_true e, zKm]
   have := zON (c.map intp) (d.map intp) r s e hr h1 h2 r.length 0 [] (by omega) (fun x hx => by simp at hx)
   simp only [List.drop_zero] at this
   simp only [Bool.not_true, cond_false, List.length_map, Bool.true_and]
   exact this
  ·rw [zNp (by omega), decide_eq_false e]; rfl
def cnt (L : List UInt8) (r : List (List Val)) : Int := ((r.map tL).count L : Nat)
theorem zQZ (L : List UInt8) (k : ByteArray) (d : Int) (m : CM) : getL L (add1 k d m) = getL L m + if L = k.toList then d else 0 := by
 unfold add1
 rw [zQV, zOL]
 split
 ·rename_i h; rw [h]
 ·omega
theorem zIL (L : List UInt8) : ∀ (r s : List (List Val)) (m : CM), r.length = s.length → (zFW m).Nodup → (zFW (zLO r s m)).Nodup ∧ getL L (zLO r s m) = getL L m + cnt L r - cnt L s
 | [], [], m, _, h => ⟨h, by simp [zLO, cnt]⟩
 | [], _ :: _, m, e, h => by simp at e
 | _ :: _, [], m, e, h => by simp at e
 | x :: r, y :: s, m, e, h => by
  have k1 := (zMj (txt x) ((getC (txt x) m).getD 0 + 1) m h).1
  have k2 := (zMj (txt y) ((getC (txt y) (add1 (txt x) 1 m)).getD 0 + -1) (add1 (txt x) 1 m) k1).1
  obtain ⟨i1, i2⟩ := zIL L r s (add1 (txt y) (-1) (add1 (txt x) 1 m)) (by simpa using e) k2
  refine ⟨i1, ?_⟩
  show getL L (zLO r s (add1 (txt y) (-1) (add1 (txt x) 1 m))) = _
  rw [i2, zQZ, zQZ]
  have c1 : cnt L (x :: r) = cnt L r + if L = (txt x).toList then 1 else 0 := by
   unfold cnt
   rw [List.map_cons, List.count_cons]
   by_cases hx : L = (txt x).toList
   ·rw [if_pos hx, show (tL x == L) = true by rw [hx]; exact beq_self_eq_true _]; simp
   ·rw [if_neg hx, show (tL x == L) = false by simpa using fun e => hx e.symm]; simp
  have c2 : cnt L (y :: s) = cnt L s + if L = (txt y).toList then 1 else 0 := by
   unfold cnt
   rw [List.map_cons, List.count_cons]
   by_cases hx : L = (txt y).toList
   ·rw [if_pos hx, show (tL y == L) = true by rw [hx]; exact beq_self_eq_true _]; simp
   ·rw [if_neg hx, show (tL y == L) = false by simpa using fun e => hx e.symm]; simp
  rw [c1, c2]
  split <;> split <;> omega
theorem zUx (r s : List (List Val)) (e : r.length = s.length) : ((zLO r s []).all fun x => x.2 == 0) = true ↔ ∀ L, cnt L r = cnt L s := by
 rw [zQW _ (zIL [] r s [] e (by simp [zFW])).1]
 constructor
 ·intro h L
  have := (zIL L r s [] e (by simp [zFW])).2
  rw [h L] at this
  simp only [getL] at this
  omega
 ·intro h L
  rw [(zIL L r s [] e (by simp [zFW])).2, h L]
  simp only [getL]; omega
theorem zUy {r s : List (List Val)} (h : r.Perm s) (L : List UInt8) : cnt L r = cnt L s := by
 unfold cnt
 rw [(h.map tL).count_eq]
theorem zOO {c : List Int} {r s : List (List Val)} (h : r.Perm s) : zUw c r c s = true := by
 unfold zUw
 rw [decide_eq_true rfl, decide_eq_true h.length_eq, (zUx r s h.length_eq).2 (zUy h)]; rfl
end Go.Cf

namespace Go.Cf
open Go Go.Ab
set_option linter.unusedVariables false
set_option linter.unusedSimpArgs false
theorem zTa (x y : Tree) : wc W zAh [x.pv, y.pv] = some (zA8 x y).pv := by
 have h := zOy x.occ (x.l.map Tree.pv) y.occ (y.l.map Tree.pv)
 simp only [Tree.fold] at h
 rw [h]
 unfold zA8
 rw [Tree.pv_mk]; rfl
theorem zOP (x y : Tree) : setO 4 (zA8 y x) = setO 4 (zA8 x y) := by
 rw [zCm, zCm]
 cases setO 4 x with
 | none => cases setO 4 y <;> rfl
 | some a =>
  cases setO 4 y with
  | none => rfl
  | some b => simp only [Option.bind_some]; rw [Nat.and_comm, Nat.or_comm]
theorem and3 : ∀ x : Nat, x < 16 → ∀ y : Nat, y < 16 → ∀ z : Nat, z < 16 → (decide (x &&& y = 0) && decide ((x ||| y) &&& z = 0)) = (decide (y &&& z = 0) && decide (x &&& (y ||| z) = 0)) := by decide +kernel
theorem zIt (x y z : Tree) : setO 4 (zA8 (zA8 x y) z) = setO 4 (zA8 x (zA8 y z)) := by
 rw [zCm, zCm, zCm, zCm]
 cases hx : setO 4 x with
 | none => rfl
 | some a =>
  cases hy : setO 4 y with
  | none => rfl
  | some b =>
   cases hz : setO 4 z with
   | none => simp only [Option.bind_some, Option.bind_none]; cases decide (a &&& b = 0) <;> rfl
   | some c =>
    have h3 := and3 a (zAQ _ _ _ hx) b (zAQ _ _ _ hy) c (zAQ _ _ _ hz)
    simp only [Option.bind_some]
    cases h1 : decide (a &&& b = 0) with
    | false =>
     cases h2 : decide (b &&& c = 0) with
     | false => rfl
     | true =>
      rw [h1, h2, Bool.false_and, Bool.true_and] at h3
      simp only [cond_false, cond_true, Option.bind_some, Option.bind_none, ← h3]
    | true =>
     cases h2 : decide (b &&& c = 0) with
     | false =>
      rw [h1, h2, Bool.false_and, Bool.true_and] at h3
      simp only [cond_false, cond_true, Option.bind_some, Option.bind_none, h3]
     | true =>
      rw [h1, h2, Bool.true_and, Bool.true_and] at h3
      simp only [cond_true, Option.bind_some, h3, Nat.or_assoc]
def okT (q : QT) (may : Bool) (t : Tree) : Bool := may && fits q.T q.D && (setO 4 t).any fun m => decide (m < 2 ^ q.occ.length)
theorem zUz (q : QT) (may : Bool) (t : Tree) : zUo q may t = bif okT q may t then some (zU q 4 t) else none := by
 unfold zUo okT
 cases setO 4 t with
 | none => simp only [Option.any_none, Bool.and_false]; rfl
 | some m => rfl
theorem zVA {q : QT} {may : Bool} {t : Tree} (h : okT q may t = true) : may = true ∧ fits q.T q.D = true ∧ ∃ m, setO 4 t = some m ∧ m < 2 ^ q.occ.length := by
 unfold okT at h
 simp only [Bool.and_eq_true] at h
 refine ⟨h.1.1, h.1.2, ?_⟩
 cases hs : setO 4 t with
 | none => rw [hs] at h; simp at h
 | some m => rw [hs] at h; exact ⟨m, rfl, by simpa using h.2⟩
theorem zOQ {q : QT} (hq : QOk q) {t : Tree} {m : Nat} (h : setO 4 t = some m) (hm : m < 2 ^ q.occ.length) : ∀ o ∈ zAC 4 t, o < q.occ.length := fun o ho => by
 have hl := zAQ _ _ _ h
 have h1 := (zBQ 4 t m h o).1 ho
 exact zT3 m hl q.occ.length (by have := hq.occ; omega) hm o (zQS m hl o h1) h1
theorem zVB {q : QT} (hq : QOk q) (hc : ∀ e ∈ q.P, zGr q e) {t t' : Tree} {m : Nat} (h : setO 4 t = some m) (h' : setO 4 t' = some m) (hm : m < 2 ^ q.occ.length) :
 ∃ p, zUf (zU q 4 t').1 (zU q 4 t').2 (zU q 4 t).1 = some ((zU q 4 t).1, p) ∧ p.Perm (zU q 4 t).2 := by
 have hm16 := zAQ _ _ _ h
 have hp : (zAC 4 t').Perm (zAC 4 t) := zP3 h' h
 have ol := zOQ hq h hm
 have ol' := zOQ hq h' hm
 rw [zDk hq hc 4 t m h hm, zDk hq hc 4 t' m h' hm]
 refine ⟨_, ?_, zT9 hq hc hp ol' (zBb 4 t' m h') hm16 (fun o ho => (zBQ 4 t m h o).2 ho)⟩
 unfold zUf
 have m1 := zOH hq ol' (zBb 4 t' m h') (zII q (zK m) (zM q (zAC 4 t')))
 have m2 := zUa (zOH hq ol (zBb 4 t m h) (fun _ => true))
 have m3 : (zM q (zAC 4 t)).all (inC (zM q (zAC 4 t'))) = true := List.all_eq_true.2 fun c hc => decide_eq_true ((zIK q hp c).2 hc)
 rw [m1, m2, m3]; rfl
theorem zRh {q : QT} (hq : QOk q) (hc : ∀ e ∈ q.P, zGr q e) {x y z : Tree} {m : Nat} (h : setO 4 (zA8 (zA8 x y) z) = some m) (hm : m < 2 ^ q.occ.length) : zU q 4 (zA8 (zA8 x y) z) = zU q 4 (zA8 x (zA8 y z)) := by
 have h' : setO 4 (zA8 x (zA8 y z)) = some m := by rw [← zIt]; exact h
 have k1 := h
 have k2 := h'
 rw [zCm] at k1 k2
 obtain ⟨xy, hxy, k1⟩ := Option.bind_eq_some_iff.1 k1
 obtain ⟨c, hz, k1⟩ := Option.bind_eq_some_iff.1 k1
 obtain ⟨d1, _⟩ := bif_some k1
 obtain ⟨a, hx, k2⟩ := Option.bind_eq_some_iff.1 k2
 obtain ⟨yz, hyz, k2⟩ := Option.bind_eq_some_iff.1 k2
 obtain ⟨d2, _⟩ := bif_some k2
 have k3 := hxy
 have k4 := hyz
 rw [zCm] at k3 k4
 rw [hx] at k3
 obtain ⟨_, e, k3⟩ := Option.bind_eq_some_iff.1 k3
 cases e
 obtain ⟨b, hy, k3⟩ := Option.bind_eq_some_iff.1 k3
 obtain ⟨d3, _⟩ := bif_some k3
 rw [hy, hz] at k4
 simp only [Option.bind_some] at k4
 obtain ⟨d4, _⟩ := bif_some k4
 have l1 := zFU hxy hz (of_decide_eq_true d1)
 have l2 := zFU hx hyz (of_decide_eq_true d2)
 have l3 := zFU hx hy (of_decide_eq_true d3)
 have l4 := zFU hy hz (of_decide_eq_true d4)
 have e : zAC 4 (zA8 (zA8 x y) z) = zAC 4 (zA8 x (zA8 y z)) := by rw [l1, l2, l3, l4, List.append_assoc]
 rw [zDk hq hc 4 _ m h hm, zDk hq hc 4 _ m h' hm, e]
theorem zLA (T : List Def) (D : List (List (List Val))) (q : QIn) (x y z : Tree) (hT : T.length ≤ 9223372036854775807) (hD : DOk D ∧ ∀ t ∈ D, ∀ r ∈ t, ROk r) (hq : q.Ok) (hx : x.Ok) (hy : y.Ok) (hz : z.Ok) :
 wc W zAt [catp T, zGK D, q.pv, x.pv, y.pv, z.pv] = some (.bool true) := by
 obtain ⟨b7, h7, h7b⟩ := zW5 T D hD.1 q hq
 obtain ⟨occ, P, by_, sums, out, ord⟩ := q
 have h7' : wc W zAu [catp T, zGK D, zBm occ (P.map Ex.pv) by_ sums out ord] = some (.bool b7) := h7
 obtain ⟨v, hv⟩ := zW6 D hD.1 occ (P.map Ex.pv) by_ sums out ord
 obtain ⟨n1, hn1⟩ := zPX x 30 hx
 obtain ⟨n2, hn2⟩ := zPX y 30 hy
 obtain ⟨n3, hn3⟩ := zPX z 30 hz
 have h := zEE (T.map Def.pv) (D.map tabp) (occ.map intp) (P.map Ex.pv) by_ (sums.map intp) (out.map intp) ord x.occ (x.l.map Tree.pv) y.occ (y.l.map Tree.pv) z.occ (z.l.map Tree.pv)
 simp only [Tree.fold, zAA, zA7, zA, zAH] at h
 show wc W zAt [catp T, zGK D, zBm occ (P.map Ex.pv) by_ sums out ord, x.pv, y.pv, z.pv] = _
 rw [h, zUv, h7', hv, hn1, hn2, hn3]
 simp only [Option.bind_some, c_b_mk, c_i64_mk, Bool.not_true, cond_false]
 cases b7 with
 | false => rfl
 | true =>
 obtain ⟨p8, s20, o20, sz60⟩ := h7b rfl
 simp only [Bool.not_true, cond_false] at p8 s20 o20 sz60 ⊢
 cases v != 0 with
 | true => rfl
 | false =>
 cases decide (n1 > 30) with
 | true => rfl
 | false =>
 cases decide (n2 > 30) with
 | true => rfl
 | false =>
 cases decide (n3 > 30) with
 | true => rfl
 | false =>
 have hok : ∀ e ∈ P, e.ok ∧ e.vals := fun e he => ⟨Ex.ok_of (by have := sz60 e he; omega), (hq.P.2 e he).2⟩
 have hR : ∀ t : Tree, wc W zBG [catp T, zGK D, zBm occ (P.map Ex.pv) by_ sums out ord, t.pv] = some (bagR (bif okT ⟨T, D, occ, P⟩ (mayQ T occ P by_ sums out ord) t then some (zU ⟨T, D, occ, P⟩ 4 t) else none)) := fun t => by
  have := zYS ⟨T, D, occ, P⟩ by_ sums out ord t hT hq.occ.1 (by simp only; omega) hok (by omega) (by omega) hD.1 hD.2
  rw [zUz] at this
  exact this
 have facts : ∀ t : Tree, okT ⟨T, D, occ, P⟩ (mayQ T occ P by_ sums out ord) t = true → QOk ⟨T, D, occ, P⟩ ∧ (∀ e ∈ P, zGr ⟨T, D, occ, P⟩ e) ∧ ∃ m, setO 4 t = some m ∧ m < 2 ^ occ.length := fun t ht => by
  obtain ⟨hc1, hc2, m, hm⟩ := zVA ht
  have hparts := hc1
  unfold mayQ at hparts
  simp only [Bool.and_eq_true, decide_eq_true_eq, List.all_eq_true] at hparts
  have Q : QOk ⟨T, D, occ, P⟩ := ⟨hc2, hD.2, hparts.1.1.1.1.2, hparts.1.1.1.2, hT, hD.1, by simp only; omega, hok⟩
  exact ⟨Q, zR9 Q hc1, m, hm⟩
 have rowsOk : ∀ (Q : QOk ⟨T, D, occ, P⟩) (t : Tree) (m : Nat), setO 4 t = some m → m < 2 ^ occ.length → mayB (zU ⟨T, D, occ, P⟩ 4 t).1 (zU ⟨T, D, occ, P⟩ 4 t).2 = true ∧ ∀ r ∈ (zU ⟨T, D, occ, P⟩ 4 t).2, ROk r := fun Q t m h hm => by
  have hrt := zE8 Q.fits Q.vals Q.occ Q.inT 4 t m h hm
  exact ⟨hrt.may (zAQ _ _ _ h), fun r hr => (hrt.rows r hr).2.2⟩
 have last : (bif okT ⟨T, D, occ, P⟩ (mayQ T occ P by_ sums out ord) (zA8 (zA8 x y) z) == okT ⟨T, D, occ, P⟩ (mayQ T occ P by_ sums out ord) (zA8 x (zA8 y z)) then true else false) = true := by
  unfold okT
  rw [zIt]; simp
 have e2 : okT ⟨T, D, occ, P⟩ (mayQ T occ P by_ sums out ord) (zA8 x (zA8 y z)) = okT ⟨T, D, occ, P⟩ (mayQ T occ P by_ sums out ord) (zA8 (zA8 x y) z) := by
  unfold okT; rw [zIt]
 have e1 : okT ⟨T, D, occ, P⟩ (mayQ T occ P by_ sums out ord) (zA8 y x) = okT ⟨T, D, occ, P⟩ (mayQ T occ P by_ sums out ord) (zA8 x y) := by
  unfold okT; rw [zOP]
 have same3 : okT ⟨T, D, occ, P⟩ (mayQ T occ P by_ sums out ord) (zA8 (zA8 x y) z) = true → wc W zDh [bagp (zU ⟨T, D, occ, P⟩ 4 (zA8 (zA8 x y) z)).1 (zU ⟨T, D, occ, P⟩ 4 (zA8 (zA8 x y) z)).2, bagp (zU ⟨T, D, occ, P⟩ 4 (zA8 x (zA8 y z))).1 (zU ⟨T, D, occ, P⟩ 4 (zA8 x (zA8 y z))).2] = some (.bool true) := fun ht => by
  obtain ⟨Q, hc, m, hs, hm⟩ := facts _ ht
  obtain ⟨r1, r2⟩ := rowsOk Q _ m hs hm
  obtain ⟨m1, m2, m3⟩ := zCl r1
  rw [← zRh Q hc hs hm, zV6 _ _ _ _ (by omega) (by omega) (by omega) (fun r hr => ⟨r2 r hr, by rw [(m3 r hr).1]; omega⟩) (fun r hr => ⟨r2 r hr, by rw [(m3 r hr).1]; omega⟩), zOO (List.Perm.refl _)]
 have j3 : ∀ a b c d : List PV, zAk (T.map Def.pv) (D.map tabp) (occ.map intp) (P.map Ex.pv) by_ (sums.map intp) (out.map intp) ord x.occ (x.l.map Tree.pv) y.occ (y.l.map Tree.pv) z.occ (z.l.map Tree.pv) a b c d = some (.bool true) := fun a b c d => by
  rw [zCp]
  simp only [Tree.fold, zAA, zA7, zA, zAH, zTa, hR, Option.bind_some, Tree.c_mk, e2]
  cases ho : okT ⟨T, D, occ, P⟩ (mayQ T occ P by_ sums out ord) (zA8 (zA8 x y) z) with
  | false => rfl
  | true =>
   simp only [cond_true, bagR, Option.bind_some, asTup_mk, List.getElem?_cons_zero, List.getElem?_cons_succ, zIB, c_b_mk, beq_self_eq_true, Bool.not_true, cond_false, zA, zAN, zAX, same3 ho]
 have j2 : ∀ a b c d e f : List PV, zAj (T.map Def.pv) (D.map tabp) (occ.map intp) (P.map Ex.pv) by_ (sums.map intp) (out.map intp) ord x.occ (x.l.map Tree.pv) y.occ (y.l.map Tree.pv) z.occ (z.l.map Tree.pv) a b c d e f = some (.bool true) := fun a b c d e f => by
  rw [zCo]
  simp only [Tree.fold, zAA, zA7, zA, zAH, zTa, hR, Option.bind_some, Tree.c_mk, e2]
  cases ho : okT ⟨T, D, occ, P⟩ (mayQ T occ P by_ sums out ord) (zA8 (zA8 x y) z) with
  | false => rfl
  | true =>
   simp only [cond_true, bagR, Option.bind_some, asTup_mk, List.getElem?_cons_zero, List.getElem?_cons_succ, zIB, c_b_mk, beq_self_eq_true, Bool.not_true, cond_false, zA, zAN, zAX, same3 ho]
 simp only [cond_false, zCn, Tree.fold, zAA, zA7, zA, zAH, zTa, hR, Option.bind_some, Tree.c_mk, e1]
 cases ho : okT ⟨T, D, occ, P⟩ (mayQ T occ P by_ sums out ord) (zA8 x y) with
 | false =>
  simp only [cond_false, bagR, Option.bind_some, asTup_mk, List.getElem?_cons_zero, List.getElem?_cons_succ, zIB, c_b_mk, beq_self_eq_true, Bool.not_true, j3]
 | true =>
  obtain ⟨Q, hc, m, hs, hm⟩ := facts _ ho
  have hs' : setO 4 (zA8 y x) = some m := by rw [zOP]; exact hs
  obtain ⟨p, hp, hperm⟩ := zVB Q hc hs hs' hm
  obtain ⟨r1, r2⟩ := rowsOk Q _ m hs hm
  obtain ⟨m1, m2, m3⟩ := zCl r1
  obtain ⟨s1, s2⟩ := rowsOk Q _ m hs' hm
  obtain ⟨k1, k2, k3⟩ := zCl s1
  have wp := zYJ (zU ⟨T, D, occ, P⟩ 4 (zA8 y x)).1 (zU ⟨T, D, occ, P⟩ 4 (zA8 y x)).2 (zU ⟨T, D, occ, P⟩ 4 (zA8 x y)).1 (by omega) (by omega) (fun r hr => by rw [(k3 r hr).1]; omega) (by omega)
  rw [hp] at wp
  have ws := zV6 (zU ⟨T, D, occ, P⟩ 4 (zA8 x y)).1 p (zU ⟨T, D, occ, P⟩ 4 (zA8 x y)).1 (zU ⟨T, D, occ, P⟩ 4 (zA8 x y)).2 (by omega) (by rw [hperm.length_eq]; omega) (by omega) (fun r hr => ⟨r2 r (hperm.mem_iff.1 hr), by rw [(m3 r (hperm.mem_iff.1 hr)).1]; omega⟩) (fun r hr => ⟨r2 r hr, by rw [(m3 r hr).1]; omega⟩)
  rw [zOO hperm] at ws
  simp only [cond_true, bagR, Option.bind_some, asTup_mk, List.getElem?_cons_zero, List.getElem?_cons_succ, zIB, c_b_mk, beq_self_eq_true, Bool.not_true, cond_false, zA, zAN, zAX, wp, ws, j2]
end Go.Cf
