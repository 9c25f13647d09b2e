/- Part 14 of the proof: an abstract machine that runs the program's code over plain values, its soundness, and what the functions tell of plain values. Conditions: those in each theorem. -/
import Derived.Test.YtgebkpchpliahaaGreatA12
set_option linter.unusedSectionVars false
namespace Go.Cf
open Go Go.Ab
set_option linter.unusedVariables false
theorem len63 {n : Nat} (h : n ≤ maxLen) : n ≤ 9223372036854775807 := h
theorem ty_api_Val {p : PV} (h : Typed cfg t_api_Val p) : ∃ v : Val, p = v.pv ∧ VOk v := by
  obtain ⟨ps, rfl, hl⟩ := h.struct_inv (fs := [(t_int, 0), (t_int, 1)]) (by kernel_rfl)
  obtain ⟨x, qs, rfl, hx, hl⟩ := typedL_cons hl
  obtain ⟨y, rfl, hy⟩ := typedL1 hl
  obtain ⟨a, rfl, ha⟩ := ty_int hx
  obtain ⟨b, rfl, hb⟩ := ty_int hy
  exact ⟨⟨a, b⟩, rfl, hb⟩
def Row0 (r : List Val) : Prop := r.length ≤ 9223372036854775807 ∧ ROk r
theorem ty_s_api_Val {p : PV} (h : Typed cfg t_s_api_Val p) : ∃ r : List Val, p = rowp r ∧ Row0 r := by
  obtain ⟨xs, rfl, hl, hx⟩ := h.slice_inv (e := t_api_Val) (by kernel_rfl)
  obtain ⟨r, rfl, hr⟩ := list_of (Q := VOk) (f := Val.pv) (xs := xs) (fun x h => ty_api_Val (hx x h))
  exact ⟨r, rfl, len63 (by simpa using hl), hr⟩
def Tab0 (t : List (List Val)) : Prop := t.length ≤ 9223372036854775807 ∧ ∀ r ∈ t, Row0 r
theorem ty_s_s_api_Val {p : PV} (h : Typed cfg t_s_s_api_Val p) : ∃ t : List (List Val), p = tabp t ∧ Tab0 t := by
  obtain ⟨xs, rfl, hl, hx⟩ := h.slice_inv (e := t_s_api_Val) (by kernel_rfl)
  obtain ⟨r, rfl, hr⟩ := list_of (Q := Row0) (f := rowp) (xs := xs) (fun x h => ty_s_api_Val (hx x h))
  exact ⟨r, rfl, len63 (by simpa using hl), hr⟩
theorem ty_s_int {p : PV} (h : Typed cfg t_s_int p) : ∃ l : List Int, p = intsp l ∧ (l.length ≤ 9223372036854775807 ∧ ∀ n ∈ l, I64 n) := by
  obtain ⟨xs, rfl, hl, hx⟩ := h.slice_inv (e := t_int) (by kernel_rfl)
  obtain ⟨r, rfl, hr⟩ := list_of (Q := I64) (f := intp) (xs := xs) (fun x h => ty_int (hx x h))
  exact ⟨r, rfl, len63 (by simpa using hl), hr⟩
def Bag0 (b : List Int × List (List Val)) : Prop := b.1.length ≤ 9223372036854775807 ∧ Tab0 b.2
theorem ty_api_Bag {p : PV} (h : Typed cfg t_api_Bag p) : ∃ b : List Int × List (List Val), p = bagp b.1 b.2 ∧ Bag0 b := by
  obtain ⟨ps, rfl, hl⟩ := h.struct_inv (fs := [(t_s_int, 0), (t_s_s_api_Val, 1)]) (by kernel_rfl)
  obtain ⟨x, qs, rfl, hx, hl⟩ := typedL_cons hl
  obtain ⟨y, rfl, hy⟩ := typedL1 hl
  obtain ⟨a, rfl, ha⟩ := ty_s_int hx
  obtain ⟨b, rfl, hb⟩ := ty_s_s_api_Val hy
  exact ⟨(a, b), rfl, ha.1, hb⟩
theorem valsL_of : ∀ {l : List Ex}, (∀ e ∈ l, e.lens ∧ e.vals) → Ex.lensL l ∧ Ex.valsL l
  | [], _ => ⟨trivial, trivial⟩
  | e :: r, h => by
    obtain ⟨a, b⟩ := valsL_of (l := r) fun x hx => h x (by simp [hx])
    obtain ⟨c, d⟩ := h e (by simp)
    exact ⟨⟨c, a⟩, d, b⟩
theorem ty_api_Expr' : ∀ (n : Nat) (p : PV), SizeOf.sizeOf p < n → Typed cfg t_api_Expr p → ∃ x : Ex, p = x.pv ∧ (x.lens ∧ x.vals)
  | 0, p, h, _ => by omega
  | n + 1, p, h, ht => by
    obtain ⟨ps, rfl, hl⟩ := ht.struct_inv (fs := [(t_int, 0), (t_int, 1), (t_api_Val, 2), (t_s_api_Expr, 4)]) (by kernel_rfl)
    obtain ⟨x, qs, rfl, hx, hl⟩ := typedL_cons hl
    obtain ⟨y, qs, rfl, hy, hl⟩ := typedL_cons hl
    obtain ⟨z, qs, rfl, hz, hl⟩ := typedL_cons hl
    obtain ⟨u, rfl, hu⟩ := typedL1 hl
    obtain ⟨o, rfl, ho⟩ := ty_int hx
    obtain ⟨c, rfl, hc⟩ := ty_int hy
    obtain ⟨v, rfl, hv⟩ := ty_api_Val hz
    obtain ⟨xs, rfl, hlen, hxs⟩ := hu.slice_inv (e := t_api_Expr) (by kernel_rfl)
    obtain ⟨l, rfl, hlo⟩ := list_of (Q := fun e : Ex => e.lens ∧ e.vals) (f := Ex.pv) (xs := xs) (fun x hx => by
      have h1 := List.sizeOf_lt_of_mem hx
      refine ty_api_Expr' n x ?_ (hxs x hx)
      have h2 : SizeOf.sizeOf (PV.slice (cfg.sh t_api_Expr) xs) ≤ SizeOf.sizeOf (PV.agg (([PV.int .i64 o, PV.int .i64 c, v.pv, PV.slice (cfg.sh t_api_Expr) xs] : List PV).flatMap PV.cells)) := by
        have e : ([PV.int .i64 o, PV.int .i64 c, v.pv, PV.slice (cfg.sh t_api_Expr) xs] : List PV).flatMap PV.cells = [PV.int .i64 o, PV.int .i64 c, .int .i64 v.K, .int .i64 v.N, PV.slice (cfg.sh t_api_Expr) xs] := rfl
        rw [e]
        simp only [PV.agg.sizeOf_spec, List.cons.sizeOf_spec, List.nil.sizeOf_spec]
        omega
      have h3 : SizeOf.sizeOf (PV.slice (cfg.sh t_api_Expr) xs) = 1 + SizeOf.sizeOf (cfg.sh t_api_Expr) + SizeOf.sizeOf xs := by simp
      omega)
    obtain ⟨a, b⟩ := valsL_of hlo
    refine ⟨.mk o c v l, ?_, ⟨len63 (by simpa using hlen), a⟩, hv, b⟩
    rw [Ex.pv_mk]
    rfl
theorem ty_api_Expr {p : PV} (h : Typed cfg t_api_Expr p) : ∃ x : Ex, p = x.pv ∧ (x.lens ∧ x.vals) := ty_api_Expr' _ p (Nat.lt_succ_self _) h
theorem ty_s_api_Expr {p : PV} (h : Typed cfg t_s_api_Expr p) : ∃ l : List Ex, p = exsp l ∧ (l.length ≤ 9223372036854775807 ∧ ∀ e ∈ l, e.lens ∧ e.vals) := by
  obtain ⟨xs, rfl, hl, hx⟩ := h.slice_inv (e := t_api_Expr) (by kernel_rfl)
  obtain ⟨r, rfl, hr⟩ := list_of (Q := fun e : Ex => e.lens ∧ e.vals) (f := Ex.pv) (xs := xs) (fun x h => ty_api_Expr (hx x h))
  exact ⟨r, rfl, len63 (by simpa using hl), hr⟩
end Go.Cf

namespace Go.Cf
open Go Go.Ab
set_option linter.unusedVariables false
set_option linter.unusedSimpArgs false
theorem w_awake3 : wc W n_roadbooklaw03_awake [] = some (.bool true) := by rw [W_eq]; exact wc_le (evF_evw 40) (by kernel_rfl)
theorem idxI_get {c : List Int} {x : Int} (h : inC c x = true) : c[(idxI c (fun y => x == y)).toNat]? = some x := by
  have h1 : decide (idxI c (fun y => x == y) < 0) = false := by rw [idxI_lt, h]; rfl
  have h2 := of_decide_eq_false h1
  unfold idxI at h2 ⊢
  cases hf : c.findIdx? (fun y => x == y) with
  | none => rw [hf] at h2; simp only at h2; omega
  | some i =>
    obtain ⟨hi, e, _⟩ := List.findIdx?_eq_some_iff_getElem.1 hf
    simp only [Int.toNat_natCast, List.getElem?_eq_getElem hi]
    rw [beq_iff_eq] at e
    rw [e]
theorem look_pick {c cols : List Int} {row : List Val} {y : Int} (h : inC cols y = true) : lookR cols (pickR c cols row) y = lookR c row y := by
  have h1 := (lookR_in (row := pickR c cols row) h (by unfold pickR; rw [List.length_map])).1
  have h2 := idxI_get h
  unfold pickR at h1
  rw [List.getElem?_map, h2, Option.map_some] at h1
  exact (Option.some.inj h1).symm
theorem nodup_idx {α : Type} : ∀ {l : List α}, l.Nodup → ∀ {j k : Nat} {o : α}, l[j]? = some o → l[k]? = some o → j = k
  | [], _, _, _, _, h, _ => by simp at h
  | x :: r, hn, 0, 0, o, h, hk => rfl
  | x :: r, hn, 0, k + 1, o, h, hk => by
    simp only [List.getElem?_cons_zero, Option.some.injEq] at h; subst h
    exact absurd (List.mem_of_getElem? (by simpa using hk)) (List.nodup_cons.1 hn).1
  | x :: r, hn, j + 1, 0, o, h, hk => by
    simp only [List.getElem?_cons_zero, Option.some.injEq] at hk; subst hk
    exact absurd (List.mem_of_getElem? (by simpa using h)) (List.nodup_cons.1 hn).1
  | x :: r, hn, j + 1, k + 1, o, h, hk => by
    exact congrArg (· + 1) (nodup_idx (o := o) (List.nodup_cons.1 hn).2 (by simpa using h) (by simpa using hk))
theorem place_of {is : List Nat} (hn : is.Nodup) {o j : Nat} (h : is[j]? = some o) : place is o = some j := by
  cases hp : place is o with
  | none => exact absurd (List.mem_of_getElem? h) (place_none hp)
  | some k =>
    have hk := place_some hp
    exact congrArg some (nodup_idx hn h hk).symm
theorem look_self {c : List Int} {row : List Val} (hn : c.Nodup) (hl : row.length = c.length) : pickR c c row = row := by
  unfold pickR
  apply List.ext_getElem?
  intro i
  rw [List.getElem?_map]
  by_cases hi : i < c.length
  · rw [List.getElem?_eq_getElem hi, Option.map_some]
    have hin : inC c c[i] = true := by unfold inC; exact decide_eq_true (List.getElem_mem hi)
    have h1 := (lookR_in hin hl).1
    have h2 := idxI_get hin
    have hlt := (List.getElem?_eq_some_iff.1 h2).1
    have e : (idxI c (fun y => c[i] == y)).toNat = i := nodup_idx hn h2 (List.getElem?_eq_getElem hi)
    rw [e] at h1
    exact h1.symm
  · rw [List.getElem?_eq_none (by omega), List.getElem?_eq_none (by omega)]; rfl
theorem mayB_parts {c : List Int} {r : List (List Val)} (h : mayB c r = true) : colsB c = true ∧ r.all (rowB c.length) = true ∧ r.length ≤ 5000 := by
  unfold mayB at h
  simp only [Bool.and_eq_true, decide_eq_true_eq] at h
  exact ⟨h.1.1, h.1.2, h.2⟩
theorem mayB_filter {c : List Int} {r : List (List Val)} (f : List Val → Bool) (h : mayB c r = true) : mayB c (r.filter f) = true := by
  obtain ⟨h1, h2, h3⟩ := mayB_parts h
  unfold mayB
  rw [h1, Bool.true_and, Bool.and_eq_true]
  refine ⟨?_, decide_eq_true (Nat.le_trans (List.length_filter_le _ _) h3)⟩
  rw [List.all_eq_true] at h2 ⊢
  exact fun x hx => h2 x (List.mem_filter.1 hx).1
theorem mayB_nil {c : List Int} {r : List (List Val)} (h : mayB c r = true) : mayB c [] = true := by
  unfold mayB; rw [(mayB_parts h).1]; rfl
theorem pick_self (c : List Int) (r : List (List Val)) : pickB c r c = bif mayB c r then some (c, r) else none := by
  unfold pickB
  cases h : mayB c r with
  | false => rfl
  | true =>
    have h1 : c.all (inC c) = true := List.all_eq_true.2 fun x hx => by unfold inC; exact decide_eq_true hx
    have hn := ((colsB_iff c).1 (mayB_parts h).1).2
    have hm : r.map (pickR c c) = r := by
      have h2 := (mayB_row h).2.2
      conv => rhs; rw [← List.map_id r]
      exact List.map_congr_left fun x hx => look_self hn (h2 x hx).1
    rw [mayB_nil h, h1, hm]; rfl
theorem pickR_ok {c cols : List Int} {row : List Val} (h : ROk row) : ROk (pickR c cols row) := fun v hv => by
  unfold pickR at hv
  obtain ⟨x, _, rfl⟩ := List.mem_map.1 hv
  exact lookR_ok c h x
theorem picks_final (c : List Int) (r : List (List Val)) (l : List Ex) (cols fewer : List Int) (hc : c.length ≤ 20) (hr : r.length ≤ 30) (hx : ∀ x ∈ r, x.length ≤ 20 ∧ ROk x) (hl : l.length ≤ 4) (he : ∀ e ∈ l, e.ok ∧ e.vals) (hn : cols.length ≤ 20)
    (hm : mayB c r = true) (hmc : mayB cols [] = true) (hin : cols.all (inC c) = true) (hall : ∀ e ∈ l, ∀ x ∈ colsT e, inC cols x = true) :
    pickB c (r.filter (keepL l c)) cols = some (cols, (r.map (pickR c cols)).filter (keepL l cols)) := by
  unfold pickB
  rw [mayB_filter _ hm, hmc, hin]
  simp only [Bool.and_self, cond_true, Option.some.injEq, Prod.mk.injEq, true_and]
  rw [List.filter_map]
  congr 1
  refine List.filter_congr fun x hx' => ?_
  unfold keepL
  rw [Function.comp_apply, Bool.eq_iff_iff, List.all_eq_true, List.all_eq_true]
  have key : ∀ e ∈ l, keepE e c x = keepE e cols (pickR c cols x) := fun e hel => keepE_congr fun y hy => (look_pick (hall e hel y hy)).symm
  exact ⟨fun h e hel => by rw [← key e hel]; exact h e hel, fun h e hel => by rw [key e hel]; exact h e hel⟩
theorem w_BagPicks (b : List Int × List (List Val)) (l : List Ex) (cols fewer : List Int) (hb : Bag0 b) (hl0 : l.length ≤ 9223372036854775807 ∧ ∀ e ∈ l, e.lens ∧ e.vals) (hc0 : cols.length ≤ 9223372036854775807 ∧ ∀ n ∈ cols, I64 n) (hf0 : fewer.length ≤ 9223372036854775807 ∧ ∀ n ∈ fewer, I64 n) :
    wc W n_roadbooklaw03_BagPicks [bagp b.1 b.2, exsp l, intsp cols, intsp fewer] = some (.bool true) := by
  obtain ⟨c, r⟩ := b
  obtain ⟨hbc, hbr, hbx⟩ := hb
  simp only at hbc hbr hbx ⊢
  have h := e_roadbooklaw03_BagPicks (c.map intp) (r.map rowp) (l.map Ex.pv) (cols.map intp) (fewer.map intp)
  rw [intsp_fold, tabp_fold, bagp_fold, exsp_fold, intsp_fold, intsp_fold] at h
  rw [h, w_awake3, show (30 : Int) = ((30 : Nat) : Int) from rfl, w_few c r 30 hbr, w_light l hl0.1 (fun e he => (hl0.2 e he).1)]
  simp only [Option.bind_some, c_b_mk, Bool.not_true, cond_false, List.length_map]
  cases hfw : fewB c r 30 with
  | false => rfl
  | true =>
  cases hlt : lightB l with
  | false => rfl
  | true =>
  simp only [Bool.not_true, cond_false]
  rcases Nat.lt_or_ge 20 cols.length with h20 | h20
  · rw [decide_eq_true (show (cols.length : Int) > 20 by omega)]; rfl
  rw [decide_eq_false (show ¬ (cols.length : Int) > 20 by omega)]
  rcases Nat.lt_or_ge 20 fewer.length with h20' | h20'
  · rw [decide_eq_true (show (fewer.length : Int) > 20 by omega)]; rfl
  rw [decide_eq_false (show ¬ (fewer.length : Int) > 20 by omega)]
  simp only [cond_false]
  obtain ⟨hr, hc, hx⟩ := fewB_of hfw
  obtain ⟨hl, hek⟩ := lightB_of hlt
  have he : ∀ e ∈ l, e.ok ∧ e.vals := fun e hel => ⟨hek e hel, (hl0.2 e hel).2⟩
  have hxr : ∀ x ∈ r, x.length ≤ 20 ∧ ROk x := fun x hxm => ⟨hx x hxm, (hbx x hxm).2⟩
  have hxl : ∀ x ∈ r, x.length ≤ 9223372036854775807 := fun x hxm => by have := hx x hxm; omega
  have J2 : ∀ A B, J_roadbooklaw03_BagPicks_2 (l.map Ex.pv) (cols.map intp) (fewer.map intp) (c.map intp) (r.map rowp) A B = some (.bool true) := fun A B => by
    rw [J_roadbooklaw03_BagPicks_2_eq]
    simp only [intsp_fold, tabp_fold, bagp_fold, w_Pick c r cols (by omega) (by omega) hxl (by omega), w_Pick c r fewer (by omega) (by omega) hxl (by omega), Option.bind_some]
    cases hp : pickB c r cols with
    | none =>
      simp only [bagR, asTup_mk, Option.bind_some, List.getElem?_cons_zero, List.getElem?_cons_succ, c_bagp, intsp_fold, tabp_fold, bagp_fold, c_b_mk]
      rw [w_Pick [] [] fewer (by simp) (by simp) (by simp) (by omega)]
      cases pickB [] [] fewer <;> cases pickB c r fewer <;> simp only [bagR, asTup_mk, Option.bind_some, List.getElem?_cons_zero, List.getElem?_cons_succ, c_bagp, c_b_mk, Bool.not_false, cond_true]
    | some p =>
      have hp' := hp
      unfold pickB at hp
      cases hcond : (mayB c r && mayB cols [] && cols.all (inC c)) with
      | false => rw [hcond] at hp; cases hp
      | true =>
      rw [hcond] at hp
      simp only [cond_true, Option.some.injEq] at hp
      subst hp
      simp only [Bool.and_eq_true] at hcond
      obtain ⟨⟨hm, hmc⟩, hin⟩ := hcond
      have hpl : ∀ x ∈ r.map (pickR c cols), x.length ≤ 9223372036854775807 := fun x hxm => by
        obtain ⟨y, _, rfl⟩ := List.mem_map.1 hxm
        unfold pickR; rw [List.length_map]; omega
      simp only [bagR, asTup_mk, Option.bind_some, List.getElem?_cons_zero, List.getElem?_cons_succ, c_bagp, intsp_fold, tabp_fold, bagp_fold, c_b_mk, w_Pick cols (r.map (pickR c cols)) fewer (by omega) (by rw [List.length_map]; omega) hpl (by omega)]
      cases hq : pickB cols (r.map (pickR c cols)) fewer with
      | none => cases pickB c r fewer <;> simp only [bagR, asTup_mk, Option.bind_some, List.getElem?_cons_zero, List.getElem?_cons_succ, c_bagp, c_b_mk, Bool.not_true, Bool.not_false, cond_true, cond_false]
      | some q =>
      have hg : pickB c r fewer = some q := by
        unfold pickB at hq ⊢
        cases hcond2 : (mayB cols (r.map (pickR c cols)) && mayB fewer [] && fewer.all (inC cols)) with
        | false => rw [hcond2] at hq; cases hq
        | true =>
        rw [hcond2] at hq
        simp only [cond_true, Option.some.injEq] at hq
        subst hq
        simp only [Bool.and_eq_true, List.all_eq_true] at hcond2
        rw [List.all_eq_true] at hin
        have h3 : fewer.all (inC c) = true := List.all_eq_true.2 fun x hxf => by
          have h4 := hcond2.2 x hxf
          unfold inC at h4
          exact hin x (of_decide_eq_true h4)
        rw [hm, hcond2.1.2, h3]
        simp only [Bool.and_self, cond_true, Option.some.injEq, Prod.mk.injEq, true_and, List.map_map]
        refine List.map_congr_left fun x _ => ?_
        rw [Function.comp_apply]
        unfold pickR
        refine List.map_congr_left fun y hy => ?_
        exact (look_pick (hcond2.2 y hy)).symm
      have hq1 : q.1.length ≤ 20 ∧ q.2.length ≤ 30 ∧ ∀ x ∈ q.2, x.length ≤ 20 := by
        unfold pickB at hg
        cases hcond3 : (mayB c r && mayB fewer [] && fewer.all (inC c)) with
        | false => rw [hcond3] at hg; cases hg
        | true =>
          rw [hcond3] at hg
          simp only [cond_true, Option.some.injEq] at hg
          subst hg
          exact ⟨h20', by rw [List.length_map]; exact hr, fun x hxm => by obtain ⟨y, _, rfl⟩ := List.mem_map.1 hxm; unfold pickR; rw [List.length_map]; exact h20'⟩
      rw [hg]
      simp only [bagR, asTup_mk, Option.bind_some, List.getElem?_cons_zero, List.getElem?_cons_succ, c_bagp, c_b_mk, Bool.not_true, cond_false, J_roadbooklaw03_BagPicks_3_eq]
      have hlike : wc W n_roadbookref03_Like [bagp q.1 q.2, bagp q.1 q.2] = some (.bool true) := by
        rw [w_Like q.1 q.2 q.1 q.2 (by omega) (by omega) (fun x hxm => by have := hq1.2.2 x hxm; omega)]
        simp
      have loop : ∀ (k i : Nat), i + k = l.length → (∀ e ∈ l.take i, ∀ x ∈ colsT e, inC cols x = true) →
          L_roadbooklaw03_BagPicks_4 (l.map Ex.pv) (cols.map intp) (c.map intp) (r.map rowp) true (i : Int) A B (cols.map intp) ((r.map (pickR c cols)).map rowp) (q.1.map intp) (q.2.map rowp) (q.1.map intp) (q.2.map rowp) = some (.bool true) := fun k => by
        induction k with
        | zero =>
          intro i hi hall
          rw [show i = l.length by omega, List.take_length] at hall
          rw [L_roadbooklaw03_BagPicks_4_eq, show i = l.length by omega]
          simp only [List.length_map, ge_len, cond_false, intsp_fold, tabp_fold, bagp_fold, exsp_fold]
          rw [w_Keep c r l (by omega) (by omega) (fun x hxm => by have := hx x hxm; omega) (fun x hxm => (hxr x hxm).2) (by omega) he]
          have hfl : (r.filter (keepL l c)).length ≤ 30 := Nat.le_trans (List.length_filter_le _ _) hr
          simp only [Option.bind_some, c_bagp, intsp_fold, tabp_fold, bagp_fold]
          rw [w_Pick c (r.filter (keepL l c)) cols (by omega) (by omega) (fun x hxm => hxl x ((List.mem_filter.1 hxm).1)) (by omega), picks_final c r l cols fewer hc hr hxr hl he h20 hm hmc hin hall]
          simp only [bagR, asTup_mk, Option.bind_some, List.getElem?_cons_zero, List.getElem?_cons_succ, c_bagp, intsp_fold, tabp_fold, bagp_fold, c_b_mk, cond_true, hlike]
          rw [w_Keep cols (r.map (pickR c cols)) l (by omega) (by rw [List.length_map]; omega) (fun x hxm => by have := hpl x hxm; obtain ⟨y, _, rfl⟩ := List.mem_map.1 hxm; unfold pickR; rw [List.length_map]; omega) (fun x hxm => by obtain ⟨y, hy, rfl⟩ := List.mem_map.1 hxm; exact pickR_ok (hxr y hy).2) (by omega) he]
          simp only [Option.bind_some, c_bagp, intsp_fold, tabp_fold, bagp_fold]
          rw [w_Like cols _ cols _ (by omega) (by have := List.length_filter_le (keepL l cols) (r.map (pickR c cols)); rw [List.length_map] at this; omega) (fun x hxm => hpl x ((List.mem_filter.1 hxm).1))]
          simp
        | succ k ih =>
          intro i hi hall
          have hi' : i < l.length := by omega
          rw [L_roadbooklaw03_BagPicks_4_eq]
          simp only [List.length_map, lt_len hi', nat_le, cond_true, Int.toNat_natCast, List.getElem?_map, List.getElem?_eq_getElem hi', Option.map_some, Option.bind_some, Ex.c_mk, Ex.fold, w_Cols _ (he _ (List.getElem_mem hi')).1, c_intsp]
          have hcl : (colsT l[i]).length ≤ 60 := by
            unfold colsT
            cases hmt : mayT l[i] with
            | false => simp
            | true =>
              have h30 := mayT_sz hmt
              have h1 := (cols_sz l[i].sz).1 l[i] (Nat.le_refl _)
              have h2 := compact_len (sortI (colsE l[i]))
              rw [sortI_len] at h2
              simp only [cond_true]; omega
          have inner : ∀ (q' j : Nat), j + q' = (colsT l[i]).length → (∀ x ∈ (colsT l[i]).take j, inC cols x = true) →
              L_roadbooklaw03_BagPicks_5 (l.map Ex.pv) (cols.map intp) (c.map intp) (r.map rowp) true (i : Int) ((colsT l[i]).map intp) (j : Int) A B (cols.map intp) ((r.map (pickR c cols)).map rowp) (q.1.map intp) (q.2.map rowp) (q.1.map intp) (q.2.map rowp) = some (.bool true) := fun q' => by
            induction q' with
            | zero =>
              intro j hj hin'
              rw [show j = (colsT l[i]).length by omega, List.take_length] at hin'
              rw [L_roadbooklaw03_BagPicks_5_eq, show j = (colsT l[i]).length by omega]
              simp only [List.length_map, ge_len, cond_false]
              rw [wrap_succ (by omega)]
              refine ih (i + 1) (by omega) fun e hel => ?_
              rw [List.take_succ_eq_append_getElem hi'] at hel
              rcases List.mem_append.1 hel with h | h
              · exact hall e h
              · rw [List.mem_singleton] at h; rw [h]; exact hin'
            | succ q' ih2 =>
              intro j hj hin'
              have hj' : j < (colsT l[i]).length := by omega
              rw [L_roadbooklaw03_BagPicks_5_eq]
              simp only [List.length_map, lt_len hj', nat_le, cond_true, Int.toNat_natCast, List.getElem?_map, List.getElem?_eq_getElem hj', Option.map_some, Option.bind_some, c_intp, intsp_fold, tabp_fold, bagp_fold, w_Place cols _ (by omega : cols.length ≤ 9223372036854775807), c_i64_mk, hlike, c_b_mk]
              have hpl2 : decide (idxI cols (fun x => x == (colsT l[i])[j]) < 0) = !inC cols (colsT l[i])[j] := by
                rw [← idxI_lt]
                have : (fun x : Int => x == (colsT l[i])[j]) = fun y => (colsT l[i])[j] == y := by funext y; exact Bool.beq_comm
                rw [this]
              rw [hpl2]
              cases hic : inC cols (colsT l[i])[j] with
              | false => rfl
              | true =>
                simp only [Bool.not_true, cond_false]
                rw [wrap_succ (by omega)]
                refine ih2 (j + 1) (by omega) fun x hxm => ?_
                rw [List.take_succ_eq_append_getElem hj'] at hxm
                rcases List.mem_append.1 hxm with h | h
                · exact hin' x h
                · rw [List.mem_singleton] at h; rw [h]; exact hic
          exact inner (colsT l[i]).length 0 (by omega) (by simp)
      exact loop l.length 0 (by omega) (by simp)
  rw [J_roadbooklaw03_BagPicks_1_eq]
  simp only [intsp_fold, tabp_fold, bagp_fold, w_Pick c r c (by omega) (by omega) hxl (by omega), pick_self, w_bag_May c r (by omega) (by omega) hxl, Option.bind_some]
  cases hm : mayB c r with
  | false =>
    simp only [cond_false, bagR, asTup_mk, Option.bind_some, List.getElem?_cons_zero, List.getElem?_cons_succ, c_bagp, c_b_mk]
    exact J2 _ _
  | true =>
    simp only [cond_true, bagR, asTup_mk, Option.bind_some, List.getElem?_cons_zero, List.getElem?_cons_succ, c_bagp, c_b_mk, intsp_fold, tabp_fold, bagp_fold]
    rw [w_Like c r c r (by omega) (by omega) hxl]
    simp only [decide_true, Bool.and_self, Option.bind_some, c_b_mk, Bool.not_true, cond_false, beq_self_eq_true, J2]
theorem law_BagPicks (b : List Int × List (List Val)) (l : List Ex) (cols fewer : List Int) (hb : Bag0 b) (hl0 : l.length ≤ 9223372036854775807 ∧ ∀ e ∈ l, e.lens ∧ e.vals) (hc0 : cols.length ≤ 9223372036854775807 ∧ ∀ n ∈ cols, I64 n) (hf0 : fewer.length ≤ 9223372036854775807 ∧ ∀ n ∈ fewer, I64 n) :
    wc W n_roadbooklaw03_BagPicks [bagp b.1 b.2, exsp l, intsp cols, intsp fewer] = some (.bool true) := w_BagPicks b l cols fewer hb hl0 hc0 hf0
end Go.Cf
