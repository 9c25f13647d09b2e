/- Part 16 of the proof: an abstract machine that runs the program's code over plain values, its soundness, and what the functions tell of plain values. Conditions: those in each theorem. -/
import Derived.Test.YtgebkpchpliahaaGreatDoorA14
set_option linter.unusedSectionVars false
namespace Go.Cf
open Go Go.Ab
set_option linter.unusedVariables false
set_option linter.unusedSimpArgs false
def VOk (v : Val) : Prop := I64 v.N
theorem inI_i64 {n : Int} (h : inI n = true) : I64 n := by unfold inI at h; simp only [Bool.and_eq_true, decide_eq_true_eq] at h; exact h
theorem oddV_ok {l : List Val} {v : Val} (h : oddV l = some v) : VOk v := by
  unfold oddV at h
  cases h1 : l.any (fun v => (fineV v).K == 2) with
  | true => rw [h1] at h; simp at h; subst h; exact ⟨by decide, by decide⟩
  | false =>
    rw [h1] at h
    cases h2 : l.any (fun v => (fineV v).K == 1) with
    | true => rw [h2] at h; simp at h; subst h; exact ⟨by decide, by decide⟩
    | false => rw [h2] at h; cases h
theorem badV_ok : VOk badV := ⟨by decide, by decide⟩
theorem oneV_ok (b : Bool) : VOk (oneV b) := by cases b <;> exact ⟨by decide, by decide⟩
theorem reckV_ok {a b : Val} {f : Int → Int → Option Int} (hf : ∀ n, f a.N b.N = some n → I64 n) : VOk (reckV a b f) := by
  unfold reckV
  cases h : oddV [a, b] with
  | some v => exact oddV_ok h
  | none =>
    simp only
    cases hn : f a.N b.N with
    | none => exact badV_ok
    | some n => exact hf n hn
def opV (o : Int) (l : List Val) : Val :=
  bif o == 2 then reckV (l.getD 0 badV) (l.getD 1 badV) addO else bif o == 3 then reckV (l.getD 0 badV) (l.getD 1 badV) subO else
  bif o == 4 then reckV (l.getD 0 badV) (l.getD 1 badV) mulO else bif o == 5 then reckV (l.getD 0 badV) (l.getD 1 badV) divO else
  bif o == 6 then eqV (l.getD 0 badV) (l.getD 1 badV) else bif o == 7 then ltV (l.getD 0 badV) (l.getD 1 badV) else
  bif o == 8 then andV l else bif o == 9 then orV l else notV (l.getD 0 badV)
theorem ok0 : VOk ⟨0, 0⟩ := ⟨by decide, by decide⟩
theorem ok1 : VOk ⟨0, 1⟩ := ⟨by decide, by decide⟩
theorem andV_ok (l : List Val) : VOk (andV l) := by
  unfold andV
  cases l.any falseV with
  | true => exact ok0
  | false => cases h : oddV l with
    | some v => exact oddV_ok h
    | none => exact ok1
theorem orV_ok (l : List Val) : VOk (orV l) := by
  unfold orV
  cases l.any trueV with
  | true => exact ok1
  | false => cases h : oddV l with
    | some v => exact oddV_ok h
    | none => exact ok0
theorem divO_ok {x y : Int} (hx : I64 x) (hy : I64 y) {n : Int} (h : divO x y = some n) : I64 n := by
  unfold divO at h
  cases hc : (y == 0 || (x == -9223372036854775808 && y == -1)) with
  | true => rw [hc] at h; cases h
  | false =>
    rw [hc] at h
    simp only [cond_false, Option.some.injEq] at h
    subst h
    obtain ⟨a1, a2⟩ := hx
    have h1 : (Int.tdiv x y).natAbs ≤ x.natAbs := by
      rw [Int.natAbs_tdiv]
      exact Nat.div_le_self _ _
    refine ⟨by omega, ?_⟩
    by_cases hm : Int.tdiv x y = 9223372036854775808
    · exfalso
      have hA : x = -9223372036854775808 := by omega
      simp only [Bool.or_eq_false_iff, Bool.and_eq_false_iff, beq_eq_false_iff_ne, ne_eq] at hc
      have hy1 : y ≠ -1 := by
        rcases hc.2 with h | h
        · exact absurd hA h
        · exact h
      subst hA
      have h2 : (Int.tdiv (-9223372036854775808) y).natAbs = 9223372036854775808 / y.natAbs := by rw [Int.natAbs_tdiv]; rfl
      rw [hm] at h2
      have h3 : y.natAbs = 1 := by
        rcases Nat.lt_or_ge y.natAbs 2 with h | h
        · have := hc.1; omega
        · have : 9223372036854775808 / y.natAbs ≤ 9223372036854775808 / 2 := Nat.div_le_div_left h (by omega)
          have h4 : (9223372036854775808 : Int).natAbs = 9223372036854775808 := rfl
          omega
      have hb2 : y = 1 := by omega
      rw [hb2] at hm
      simp at hm
    · omega
theorem getD_ok {l : List Val} (h : ∀ v ∈ l, VOk v) (i : Nat) : VOk (l.getD i badV) := by
  rw [List.getD_eq_getElem?_getD]
  cases e : l[i]? with
  | none => exact badV_ok
  | some v => exact h v (List.mem_of_getElem? e)
theorem opV_ok (o : Int) {l : List Val} (h : ∀ v ∈ l, VOk v) : VOk (opV o l) := by
  have a := getD_ok h 0
  have b := getD_ok h 1
  unfold opV
  have o1 : ∀ {f : Int → Int → Int} {x y n : Int}, (bif inI (f x y) then some (f x y) else none) = some n → I64 n := fun {f x y n} hn => by
    cases hi : inI (f x y) with
    | true => rw [hi] at hn; simp at hn; subst hn; exact inI_i64 hi
    | false => rw [hi] at hn; cases hn
  cases o == 2 with
  | true => exact reckV_ok fun n hn => o1 (f := fun x y => x + y) hn
  | false =>
  cases o == 3 with
  | true => exact reckV_ok fun n hn => o1 (f := fun x y => x - y) hn
  | false =>
  cases o == 4 with
  | true => exact reckV_ok fun n hn => o1 (f := fun x y => x * y) hn
  | false =>
  cases o == 5 with
  | true => exact reckV_ok fun n hn => divO_ok a b hn
  | false =>
  cases o == 6 with
  | true =>
    show VOk (eqV _ _)
    unfold eqV
    cases e : oddV [l.getD 0 badV, l.getD 1 badV] with
    | some v => exact oddV_ok e
    | none => exact oneV_ok _
  | false =>
  cases o == 7 with
  | true =>
    show VOk (ltV _ _)
    unfold ltV
    cases e : oddV [l.getD 0 badV, l.getD 1 badV] with
    | some v => exact oddV_ok e
    | none => exact oneV_ok _
  | false =>
  cases o == 8 with
  | true => exact andV_ok l
  | false =>
  cases o == 9 with
  | true => exact orV_ok l
  | false =>
    show VOk (notV _)
    unfold notV
    cases e : oddV [l.getD 0 badV] with
    | some v => exact oddV_ok e
    | none => exact oneV_ok _
theorem two_of {l : List Val} (h : l.length = 2) : ∃ a b, l = [a, b] := by
  match l, h with
  | [a, b], _ => exact ⟨a, b, rfl⟩
theorem w_two1 (l : List Val) (g : Nat) (v : Val) (a b : Val) (hl : l = [a, b]) (hg : wc W g [a.pv, b.pv] = some v.pv) : wc W n_expr_two_1 [rowp l, .imm 0 (.fn g [] []) 0] = some v.pv := by
  subst hl
  have h := e_expr_two_1 ([a, b].map Val.pv) (.fn g [] [])
  rw [rowp_fold] at h
  rw [h]
  simp only [List.map_cons, List.map_nil, List.getElem?_cons_zero, List.getElem?_cons_succ, Option.bind_some, Val.c_mk, Val.fold, asFn_mk, List.nil_append, List.append_nil, hg]
theorem w_op (o : Int) (l : List Val) (h0 : 0 ≤ o) (h11 : o < 11) (h2 : 2 ≤ o) (hlo : lowO o ≤ (l.length : Int)) (hhi : (l.length : Int) ≤ highO o) (hl : ∀ v ∈ l, VOk v) :
    ∃ g fs cs, fnO o = .fn g fs cs ∧ wc W g (fs ++ [rowp l] ++ cs) = some (opV o l).pv := by
  have two : (2 ≤ o ∧ o ≤ 7) → ∃ a b, l = [a, b] := fun h => two_of (by
    unfold lowO highO at *
    rw [decide_eq_true h.1, decide_eq_true h.2] at hlo hhi
    simp only [Bool.and_self, cond_true] at hlo hhi
    omega)
  have hlen : l.length ≤ 9223372036854775807 := by
    unfold highO at hhi
    cases hb : (decide (2 ≤ o) && decide (o ≤ 7)) <;> rw [hb] at hhi
    · cases h10 : (o == 10) <;> rw [h10] at hhi
      · cases h8 : (o == 8 || o == 9) <;> rw [h8] at hhi <;> simp only [cond_true, cond_false] at hhi <;> omega
      · simp only [cond_true, cond_false] at hhi; omega
    · simp only [cond_true] at hhi; omega
  by_cases e2 : o = 2
  · obtain ⟨a, b, e⟩ := two (by omega)
    subst e2; subst e
    exact ⟨_, _, _, rfl, w_two1 _ _ _ a b rfl (w_Add a b (hl a (by simp)) (hl b (by simp)))⟩
  by_cases e3 : o = 3
  · obtain ⟨a, b, e⟩ := two (by omega)
    subst e3; subst e
    exact ⟨_, _, _, rfl, w_two1 _ _ _ a b rfl (w_Sub a b (hl a (by simp)) (hl b (by simp)))⟩
  by_cases e4 : o = 4
  · obtain ⟨a, b, e⟩ := two (by omega)
    subst e4; subst e
    exact ⟨_, _, _, rfl, w_two1 _ _ _ a b rfl (w_Mul a b (hl a (by simp)) (hl b (by simp)))⟩
  by_cases e5 : o = 5
  · obtain ⟨a, b, e⟩ := two (by omega)
    subst e5; subst e
    exact ⟨_, _, _, rfl, w_two1 _ _ _ a b rfl (w_Div a b (hl a (by simp)) (hl b (by simp)))⟩
  by_cases e6 : o = 6
  · obtain ⟨a, b, e⟩ := two (by omega)
    subst e6; subst e
    exact ⟨_, _, _, rfl, w_two1 _ _ _ a b rfl (w_Eq a b)⟩
  by_cases e7 : o = 7
  · obtain ⟨a, b, e⟩ := two (by omega)
    subst e7; subst e
    exact ⟨_, _, _, rfl, w_two1 _ _ _ a b rfl (w_Lt a b)⟩
  by_cases e8 : o = 8
  · subst e8
    refine ⟨_, _, _, rfl, ?_⟩
    have h := e_expr_ways_1 (l.map Val.pv)
    rw [rowp_fold] at h
    show wc W n_expr_ways_1 [rowp l] = _
    rw [h, w_And l hlen]; rfl
  by_cases e9 : o = 9
  · subst e9
    refine ⟨_, _, _, rfl, ?_⟩
    have h := e_expr_ways_2 (l.map Val.pv)
    rw [rowp_fold] at h
    show wc W n_expr_ways_2 [rowp l] = _
    rw [h, w_Or l hlen]; rfl
  have e10 : o = 10 := by omega
  subst e10
  refine ⟨_, _, _, rfl, ?_⟩
  have h := e_expr_ways_3 (l.map Val.pv)
  rw [rowp_fold] at h
  show wc W n_expr_ways_3 [rowp l] = _
  rw [h]
  have h1 : l.length = 1 := by
    have a : lowO 10 = 1 := rfl
    have b : highO 10 = 1 := rfl
    rw [a] at hlo; rw [b] at hhi; omega
  match l, h1 with
  | [a], _ =>
    simp only [List.map_cons, List.map_nil, List.getElem?_cons_zero, Option.bind_some, Val.c_mk, Val.fold, w_Not]
    rfl
mutual
def evalE (look : Int → Val) : Ex → Val
  | .mk o c v l => bif o == 0 then v else bif o == 1 then look c else opV o (evalL look l)
def evalL (look : Int → Val) : List Ex → List Val
  | [] => []
  | e :: r => evalE look e :: evalL look r
end
theorem evalL_map (look : Int → Val) : ∀ l : List Ex, evalL look l = l.map (evalE look)
  | [] => rfl
  | e :: r => by rw [evalL, evalL_map look r]; rfl
theorem evalE_eq (look : Int → Val) (e : Ex) : evalE look e = bif e.op == 0 then e.v else bif e.op == 1 then look e.col else opV e.op (e.l.map (evalE look)) := by
  cases e; rw [evalE, evalL_map]; rfl
mutual
def Ex.vals : Ex → Prop
  | .mk _ _ v l => VOk v ∧ Ex.valsL l
def Ex.valsL : List Ex → Prop
  | [] => True
  | e :: r => e.vals ∧ Ex.valsL r
end
theorem Ex.valsL_mem : ∀ {l : List Ex}, Ex.valsL l → ∀ e ∈ l, e.vals
  | x :: r, h, e, he => by
    rcases List.mem_cons.1 he with rfl | he
    · exact h.1
    · exact Ex.valsL_mem h.2 e he
theorem Ex.vals_v {e : Ex} (h : e.vals) : VOk e.v ∧ ∀ x ∈ e.l, x.vals := by
  cases e; exact ⟨h.1, Ex.valsL_mem h.2⟩
mutual
def partsE : Ex → Bool
  | .mk o c v l => partE o c v l.length && partsL l
def partsL : List Ex → Bool
  | [] => true
  | e :: r => partsE e && partsL r
end
theorem partsL_all : ∀ l : List Ex, partsL l = l.all partsE
  | [] => rfl
  | e :: r => by rw [partsL, partsL_all r]; rfl
theorem partsE_eq (e : Ex) : partsE e = (partE e.op e.col e.v e.l.length && e.l.all partsE) := by cases e; rw [partsE, partsL_all]; rfl
theorem parts_of_may : ∀ (m : Nat) (e : Ex), e.sz ≤ m → ∀ d n, (mayE d n e).1 = true → partsE e = true
  | 0, e, h, _, _, _ => by have := e.sz_pos; omega
  | m + 1, e, h, d, n, hm => by
    rw [mayE_eq] at hm
    cases hs : stepE d n e with
    | false => rw [hs] at hm; cases hm
    | true =>
      rw [hs] at hm
      simp only [cond_true] at hm
      have hp : partE e.op e.col e.v e.l.length = true := by unfold stepE at hs; simp only [Bool.and_eq_true] at hs; exact hs.2
      rw [partsE_eq, hp, Bool.true_and, List.all_eq_true]
      have hsz : e.sz = Ex.szL e.l + 1 := by cases e; rfl
      have hl : ∀ (l : List Ex) (d n : Int), Ex.szL l ≤ m → (mayL d n l).1 = true → ∀ x ∈ l, partsE x = true := fun l => by
        induction l with
        | nil => intro _ _ _ _ x hx; cases hx
        | cons y r ih =>
          intro d n hsz hm x hx
          simp only [Ex.szL] at hsz
          simp only [mayL] at hm
          cases hy : mayE d n y with
          | mk b q =>
            rw [hy] at hm
            cases b with
            | false => cases hm
            | true =>
              rcases List.mem_cons.1 hx with rfl | hx
              · exact parts_of_may m x (by omega) d n (by rw [hy])
              · exact ih d q (by omega) hm x hx
      exact hl e.l (d + 1) (n + 1) (by omega) hm
def lookR (cols : List Int) (row : List Val) (c : Int) : Val := bif decide (idxI cols (fun x => c == x) < 0) then badV else bif decide (idxI cols (fun x => c == x) ≥ (row.length : Int)) then badV else row.getD (idxI cols (fun x => c == x)).toNat badV
theorem w_Index (l : List Int) (n : Int) (hl : l.length ≤ 9223372036854775807) : wc W n_slices_Index_int_int [intsp l, .int .i64 n] = some (.int .i64 (idxI l (fun x => n == x))) := by
  have h := e_slices_Index_int_int (l.map intp) n
  rw [intsp_fold] at h
  rw [h, List.length_map]
  refine loop_idx (fun i => L_slices_Index_int_int_1 (l.map intp) n l.length i) l (fun x => n == x) (fun n => some (.int .i64 n)) (fun i hi => ?_) ?_
  · rw [L_slices_Index_int_int_1_eq]
    simp only [lt_len hi, nat_le, cond_true, Int.toNat_natCast, List.getElem?_map, List.getElem?_eq_getElem hi, Option.map_some, Option.bind_some, c_intp]
    rw [wrap64 (by omega) (by omega)]
  · rw [L_slices_Index_int_int_1_eq]; simp
theorem lookR_ok (cols : List Int) {row : List Val} (h : ∀ v ∈ row, VOk v) (c : Int) : VOk (lookR cols row c) := by
  unfold lookR
  cases decide (idxI cols (fun x => c == x) < 0) with
  | true => exact badV_ok
  | false =>
    cases decide (idxI cols (fun x => c == x) ≥ (row.length : Int)) with
    | true => exact badV_ok
    | false => exact getD_ok h _
theorem evalE_ok (look : Int → Val) (hlk : ∀ c, VOk (look c)) : ∀ (m : Nat) (e : Ex), e.sz ≤ m → e.vals → VOk (evalE look e)
  | 0, e, h, _ => by have := e.sz_pos; omega
  | m + 1, e, h, hv => by
    rw [evalE_eq]
    obtain ⟨h1, h2⟩ := Ex.vals_v hv
    have hsz : e.sz = Ex.szL e.l + 1 := by cases e; rfl
    cases e.op == 0 with
    | true => exact h1
    | false =>
      cases e.op == 1 with
      | true => exact hlk _
      | false =>
        refine opV_ok _ fun v hv => ?_
        obtain ⟨x, hx, rfl⟩ := List.mem_map.1 hv
        exact evalE_ok look hlk m x (by have := Ex.sz_mem hx; omega) (h2 x hx)
theorem w_eval (cols : List Int) (row : List Val) (hc : cols.length ≤ 9223372036854775807) (hr : ∀ v ∈ row, VOk v) : ∀ (m : Nat) (e : Ex), e.sz ≤ m → e.sz ≤ 4294967295 → partsE e = true → e.vals →
    wc W n_expr_eval [e.pv, intsp cols, rowp row] = some (evalE (lookR cols row) e).pv
  | 0, e, h, _, _, _ => by have := e.sz_pos; omega
  | m + 1, e, h, hs, hp, hv => by
    have he := e_expr_eval e.op e.col e.v.K e.v.N (e.l.map Ex.pv) (cols.map intp) (row.map Val.pv)
    rw [Ex.fold, intsp_fold, rowp_fold] at he
    rw [he, evalE_eq]
    have hsz : e.sz = Ex.szL e.l + 1 := by cases e; rfl
    have hle := Ex.szL_ge e.l
    rw [partsE_eq, Bool.and_eq_true, List.all_eq_true] at hp
    obtain ⟨hp1, hp2⟩ := hp
    obtain ⟨hv1, hv2⟩ := Ex.vals_v hv
    cases h0 : e.op == 0 with
    | true => rfl
    | false =>
      cases h1 : e.op == 1 with
      | true =>
        simp only [cond_false, cond_true, w_Index cols e.col hc, Option.bind_some, c_i64_mk, List.length_map]
        unfold lookR
        cases ha : decide (idxI cols (fun x => e.col == x) < 0) with
        | true => rfl
        | false =>
          simp only [cond_false]
          have hb0 : decide (idxI cols (fun x => e.col == x) ≥ (row.length : Int)) = decide (idxI cols (fun x => e.col == x) ≥ (row.length : Int)) := rfl
          cases hb : decide (idxI cols (fun x => e.col == x) ≥ (row.length : Int)) with
          | true => rfl
          | false =>
            simp only [cond_false]
            have ha' := of_decide_eq_false ha
            have hb' := of_decide_eq_false hb
            rw [J_expr_eval_1_eq, decide_eq_true (show 0 ≤ idxI cols (fun x => e.col == x) by omega)]
            have hlt : (idxI cols (fun x => e.col == x)).toNat < row.length := by omega
            simp only [cond_true, List.getElem?_map, List.getElem?_eq_getElem hlt, Option.map_some, Option.bind_some, Val.c_mk, Val.fold, List.getD_eq_getElem?_getD, Option.getD_some]
      | false =>
        simp only [cond_false, List.length_map]
        have hop : 2 ≤ e.op ∧ e.op < 11 ∧ lowO e.op ≤ (e.l.length : Int) ∧ (e.l.length : Int) ≤ highO e.op := by
          unfold partE at hp1
          simp only [Bool.and_eq_true, decide_eq_true_eq] at hp1
          have a := beq_eq_false_iff_ne.1 h0
          have b := beq_eq_false_iff_ne.1 h1
          omega
        have hok : ∀ v ∈ e.l.map (evalE (lookR cols row)), VOk v := fun v hv => by
          obtain ⟨x, hx, rfl⟩ := List.mem_map.1 hv
          exact evalE_ok _ (lookR_ok cols hr) x.sz x (Nat.le_refl _) (hv2 x hx)
        have loop : ∀ (k i : Nat) (a b : Int), i + k = e.l.length →
            L_expr_eval_2 (cols.map intp) (row.map Val.pv) e.op e.col e.v.K e.v.N (e.l.map Ex.pv) (e.l.map Ex.pv) (e.l.length : Int) (i : Int) a b (((e.l.take i).map (evalE (lookR cols row))).map Val.pv) = some (opV e.op (e.l.map (evalE (lookR cols row)))).pv := fun k => by
          induction k with
          | zero =>
            intro i a b hi
            rw [L_expr_eval_2_eq, show i = e.l.length by omega]
            simp only [ge_len, cond_false, w_ways, Option.bind_some, c_g_i64_i64_p_mk, List.take_length]
            obtain ⟨g, fs, cs, k1, k2⟩ := w_op e.op (e.l.map (evalE (lookR cols row))) (by omega) hop.2.1 hop.1 (by rw [List.length_map]; exact hop.2.2.1) (by rw [List.length_map]; exact hop.2.2.2) hok
            rw [k1]
            simp only [asFn_mk, Option.bind_some, rowp_fold, k2, Val.c_mk, Val.fold]
          | succ k ih =>
            intro i a b hi
            have hi' : i < e.l.length := by omega
            have hx := List.getElem_mem hi'
            have hm := Ex.sz_mem hx
            rw [L_expr_eval_2_eq]
            simp only [lt_len hi', nat_le, cond_true, Int.toNat_natCast, List.getElem?_map, List.getElem?_eq_getElem hi', Option.map_some, Option.bind_some, Ex.c_mk, Ex.fold, intsp_fold, rowp_fold]
            rw [w_eval cols row hc hr m e.l[i] (by omega) (by omega) (hp2 _ hx) (hv2 _ hx)]
            simp only [Option.bind_some, Val.c_mk, Val.fold, List.length_map, List.length_take, Nat.min_eq_left (Nat.le_of_lt hi'), Bool.true_and, decide_eq_true (show i + 1 ≤ 4294967296 by omega), cond_true]
            rw [wrap_succ (by omega)]
            have := ih (i + 1) a b (by omega)
            rw [List.take_succ_eq_append_getElem hi', List.map_append, List.map_append] at this
            exact this
        have := loop e.l.length 0 0 0 (by omega)
        rw [List.take_zero] at this
        exact this
def evalT (e : Ex) (cols : List Int) (row : List Val) : Val := bif mayT e then evalE (lookR cols row) e else badV
theorem w_Eval (e : Ex) (cols : List Int) (row : List Val) (he : e.ok) (hv : e.vals) (hc : cols.length ≤ 9223372036854775807) (hr : ∀ v ∈ row, VOk v) :
    wc W n_expr_Eval [e.pv, intsp cols, rowp row] = some (evalT e cols row).pv := by
  have h := e_expr_Eval e.op e.col e.v.K e.v.N (e.l.map Ex.pv) (cols.map intp) (row.map Val.pv)
  rw [Ex.fold, intsp_fold, rowp_fold] at h
  rw [h, w_expr_May e he]
  simp only [Option.bind_some, c_b_mk]
  unfold evalT
  cases hm : mayT e with
  | false => rfl
  | true =>
    have h30 := mayT_sz hm
    simp only [Bool.not_true, cond_false, cond_true, w_eval cols row hc hr e.sz e (Nat.le_refl _) (by omega) (parts_of_may e.sz e (Nat.le_refl _) 1 0 hm) hv, Option.bind_some, Val.c_mk, Val.fold]
def keepE (e : Ex) (cols : List Int) (row : List Val) : Bool := trueV (evalT e cols row)
theorem w_Keeps (e : Ex) (cols : List Int) (row : List Val) (he : e.ok) (hv : e.vals) (hc : cols.length ≤ 9223372036854775807) (hr : ∀ v ∈ row, VOk v) :
    wc W n_expr_Keeps [e.pv, intsp cols, rowp row] = some (.bool (keepE e cols row)) := by
  have h := e_expr_Keeps e.op e.col e.v.K e.v.N (e.l.map Ex.pv) (cols.map intp) (row.map Val.pv)
  rw [Ex.fold, intsp_fold, rowp_fold] at h
  rw [h, w_Eval e cols row he hv hc hr]
  simp only [Option.bind_some, Val.c_mk, Val.fold, w_True, c_b_mk]
  rfl
mutual
def colsE : Ex → List Int
  | .mk o c _ l => (bif o == 1 then [c] else []) ++ colsL l
def colsL : List Ex → List Int
  | [] => []
  | e :: r => colsE e ++ colsL r
end
theorem colsE_eq (e : Ex) : colsE e = (bif e.op == 1 then [e.col] else []) ++ colsL e.l := by cases e; rfl
theorem colsL_drop (l : List Ex) (i : Nat) (hi : i < l.length) : colsL (l.drop i) = colsE l[i] ++ colsL (l.drop (i + 1)) := by rw [List.drop_eq_getElem_cons hi]; rfl
theorem cols_sz : ∀ (m : Nat), (∀ e : Ex, e.sz ≤ m → (colsE e).length ≤ e.sz) ∧ ∀ l : List Ex, Ex.szL l ≤ m → (colsL l).length ≤ Ex.szL l
  | 0 => ⟨fun e h => by have := e.sz_pos; omega, fun l h => by
      cases l with
      | nil => exact Nat.le_refl _
      | cons e r => have := e.sz_pos; simp only [Ex.szL] at h; omega⟩
  | m + 1 => by
    obtain ⟨h1, h2⟩ := cols_sz m
    have hE : ∀ e : Ex, e.sz ≤ m + 1 → (colsE e).length ≤ e.sz := fun e h => by
      have hsz : e.sz = Ex.szL e.l + 1 := by cases e; rfl
      have := h2 e.l (by omega)
      rw [colsE_eq, List.length_append]
      cases e.op == 1 <;> simp <;> omega
    refine ⟨hE, fun l => ?_⟩
    induction l with
    | nil => exact fun _ => Nat.le_refl _
    | cons e r ih =>
      intro h
      simp only [Ex.szL] at h
      have a := hE e (by omega)
      have b := ih (by omega)
      simp only [colsL, Ex.szL, List.length_append]; omega
theorem w_Cols1 (e : Ex) (d : Int) (acc : List Int) (h : acc.length + 1 ≤ 4294967296) :
    W n_expr_Cols_1 false [.pv e.pv, .pv (.int .i64 d), .own 0 0] [.var false 0 (.view 1 0 none), .row false 0 0 (acc.map intp)] =
      some (.pv (.bool true), [.var false 0 (.view 1 0 none), .row false 0 0 ((acc ++ bif e.op == 1 then [e.col] else []).map intp)]) := by
  have he := o_expr_Cols_1_o2_1 e.op e.col e.v.K e.v.N (e.l.map Ex.pv) d (acc.map intp)
  rw [Ex.fold] at he
  rw [he, List.length_map]
  cases e.op == 1 with
  | false => simp
  | true =>
    simp only [Bool.true_and, decide_eq_true h, cond_true, List.map_append, List.map_cons, List.map_nil]
    rfl
theorem w_eachC : ∀ (m : Nat) (e : Ex), e.sz ≤ m → ∀ (d : Int) (acc : List Int), acc.length + e.sz ≤ 4294967295 →
    W n_expr_each false [.pv e.pv, .pv (.int .i64 d), .fnv n_expr_Cols_1 [] [.own 0 0]] [.var false 0 (.view 1 0 none), .row false 0 0 (acc.map intp)] =
      some (.pv (.bool true), [.var false 0 (.view 1 0 none), .row false 0 0 ((acc ++ colsE e).map intp)])
  | 0, e, h, _, _, _ => by have := e.sz_pos; omega
  | m + 1, e, h, d, acc, ha => by
    have he := o_expr_each_o2_1 e.op e.col e.v.K e.v.N (e.l.map Ex.pv) d (acc.map intp)
    rw [Ex.fold] at he
    have hsz : e.sz = Ex.szL e.l + 1 := by cases e; rfl
    have hge := Ex.szL_ge e.l
    have hc := (cols_sz e.sz).1 e (Nat.le_refl _)
    have hcl := (cols_sz (Ex.szL e.l)).2 e.l (Nat.le_refl _)
    rw [he, w_Cols1 e d acc (by omega)]
    simp only [Option.bind_some, k_b2223f_mk, c_b_mk, Bool.not_true, cond_false, List.length_map]
    have hx : (acc ++ bif e.op == 1 then [e.col] else []).length ≤ acc.length + 1 := by rw [List.length_append]; cases e.op == 1 <;> simp
    have loop : ∀ (k i : Nat) (ac : List Int), i + k = e.l.length → ac.length + Ex.szL (e.l.drop i) ≤ 4294967295 →
        L_expr_each_o2_1 d (e.l.map Ex.pv) (e.l.length : Int) (i : Int) (ac.map intp) = some (.pv (.bool true), [.var false 0 (.view 1 0 none), .row false 0 0 ((ac ++ colsL (e.l.drop i)).map intp)]) := fun k => by
      induction k with
      | zero =>
        intro i ac hi _
        rw [L_expr_each_o2_1_eq, show i = e.l.length by omega]
        simp [ge_len, colsL]
      | succ k ih =>
        intro i ac hi hb
        have hi' : i < e.l.length := by omega
        have hm := Ex.sz_mem (List.getElem_mem hi')
        rw [Ex.sz_drop e.l i hi'] at hb
        have hci := (cols_sz e.l[i].sz).1 e.l[i] (Nat.le_refl _)
        rw [L_expr_each_o2_1_eq]
        simp only [lt_len hi', nat_le, cond_true, Int.toNat_natCast, List.getElem?_map, List.getElem?_eq_getElem hi', Option.map_some, Option.bind_some, Ex.c_mk, Ex.fold]
        rw [w_eachC m e.l[i] (by omega) _ ac (by omega)]
        simp only [Option.bind_some, k_b2223f_mk, c_b_mk, Bool.not_true, cond_false]
        rw [wrap_succ (by omega), ih (i + 1) (ac ++ colsE e.l[i]) (by omega) (by rw [List.length_append]; omega), colsL_drop e.l i hi', List.append_assoc]
    have := loop e.l.length 0 (acc ++ bif e.op == 1 then [e.col] else []) (by omega) (by rw [List.drop_zero]; omega)
    rw [List.drop_zero, List.append_assoc, ← colsE_eq] at this
    exact this
def colsT (e : Ex) : List Int := bif mayT e then Lib.compact (sortI (colsE e)) else []
theorem w_Cols (e : Ex) (he : e.ok) : wc W n_expr_Cols [e.pv] = some (intsp (colsT e)) := by
  have h := e_expr_Cols e.op e.col e.v.K e.v.N (e.l.map Ex.pv)
  rw [Ex.fold] at h
  rw [h, w_expr_May e he]
  simp only [Option.bind_some, c_b_mk]
  unfold colsT
  cases hm : mayT e with
  | false => rfl
  | true =>
    have h30 := mayT_sz hm
    have hc := (cols_sz e.sz).1 e (Nat.le_refl _)
    have h1 := w_eachC e.sz e (Nat.le_refl _) 1 [] (by simp; omega)
    have h2 := x_slices_Sort_int_int false 0 (colsE e) (by omega)
    have h3 := x_slices_Compact_int_int 0 (sortI (colsE e)) (by rw [sortI_len]; omega)
    simp only [List.map_nil, List.nil_append] at h1
    simp only [Bool.not_true, cond_false, cond_true, h1, Option.bind_some, k_b2223f_mk, c_b_mk]
    have e1 : ∀ l : List Int, l.map intp = l.map (PV.int .i64) := fun _ => rfl
    rw [e1, h2]
    simp only [Option.bind_some, k_cad770_mk, h3, k_b7636c_mk, c_s0_mk]
    rfl
theorem mem_compact (zs : List Int) (c : Int) : c ∈ Lib.compact zs ↔ c ∈ zs := by
  unfold Lib.compact Lib.compactUpTo
  simp only [List.mem_map, List.mem_filter, List.mem_range]
  constructor
  · rintro ⟨j, ⟨hj, _⟩, rfl⟩
    have : (zs.toArray[j]! : Int) = zs[j] := by simp [getElem!_pos, hj]
    rw [this]; exact List.getElem_mem hj
  · intro h
    have hex : ∃ j, j < zs.length ∧ zs.toArray[j]! = c := by
      obtain ⟨j, hj, e⟩ := List.mem_iff_getElem.1 h
      exact ⟨j, hj, by simp [getElem!_pos, hj, e]⟩
    have hmin : ∀ n : Nat, ∀ j, j ≤ n → j < zs.length → zs.toArray[j]! = c → ∃ i, (i < zs.length ∧ Lib.keeps zs.toArray i = true) ∧ zs.toArray[i]! = c := fun n => by
      induction n with
      | zero =>
        intro j hj hl hc
        have : j = 0 := by omega
        subst this
        exact ⟨0, ⟨hl, by simp [Lib.keeps]⟩, hc⟩
      | succ n ih =>
        intro j hj hl hc
        by_cases hk : Lib.keeps zs.toArray j = true
        · exact ⟨j, ⟨hl, hk⟩, hc⟩
        · have hk' : ¬ (j = 0 ∨ zs.toArray[j]! ≠ zs.toArray[j - 1]!) := fun h => hk (by unfold Lib.keeps; exact decide_eq_true h)
          have h0 : j ≠ 0 := fun e => hk' (.inl e)
          have h1 : zs.toArray[j]! = zs.toArray[j - 1]! := Classical.byContradiction fun e => hk' (.inr e)
          exact ih (j - 1) (by omega) (by omega) (by rw [← h1]; exact hc)
    obtain ⟨j, hj, hc⟩ := hex
    exact hmin j j (Nat.le_refl _) hj hc
theorem mem_colsT {e : Ex} (h : mayT e = true) (c : Int) : c ∈ colsT e ↔ c ∈ colsE e := by
  unfold colsT
  rw [h, cond_true, mem_compact]
  exact mem_sortI
theorem evalE_congr {f g : Int → Val} : ∀ (m : Nat) (e : Ex), e.sz ≤ m → (∀ c ∈ colsE e, f c = g c) → evalE f e = evalE g e
  | 0, e, h, _ => by have := e.sz_pos; omega
  | m + 1, e, h, hc => by
    rw [evalE_eq, evalE_eq]
    have hsz : e.sz = Ex.szL e.l + 1 := by cases e; rfl
    rw [colsE_eq] at hc
    cases e.op == 0 with
    | true => rfl
    | false =>
      cases h1 : e.op == 1 with
      | true => exact hc e.col (by rw [h1]; simp)
      | false =>
        simp only [cond_false]
        congr 1
        have hmem : ∀ (l : List Ex) (x : Ex), x ∈ l → ∀ c ∈ colsE x, c ∈ colsL l := fun l => by
          induction l with
          | nil => intro x hx; cases hx
          | cons y r ih =>
            intro x hx c hc
            simp only [colsL, List.mem_append]
            rcases List.mem_cons.1 hx with rfl | hx
            · exact .inl hc
            · exact .inr (ih x hx c hc)
        exact List.map_congr_left fun x hx => evalE_congr m x (by have := Ex.sz_mem hx; omega) fun c hcx => hc c (by rw [List.mem_append]; exact .inr (hmem e.l x hx c hcx))
theorem keepE_congr {e : Ex} {cols cols' : List Int} {row row' : List Val} (h : ∀ c ∈ colsT e, lookR cols row c = lookR cols' row' c) : keepE e cols row = keepE e cols' row' := by
  unfold keepE evalT
  cases hm : mayT e with
  | false => rfl
  | true => simp only [cond_true]; rw [evalE_congr e.sz e (Nat.le_refl _) fun c hc => h c ((mem_colsT hm c).2 hc)]
end Go.Cf

namespace Go.Cf
open Go Go.Ab
set_option linter.unusedVariables false
set_option linter.unusedSimpArgs false
def bagp (c : List Int) (r : List (List Val)) : PV := .agg [intsp c, tabp r]
@[simp] theorem bagp_fold (c : List Int) (r : List (List Val)) : PV.agg [intsp c, tabp r] = bagp c r := rfl
@[simp] theorem c_bagp (c : List Int) (r : List (List Val)) {R : Type} (f : List PV → List PV → Option R) : c_g_s0_s0 (bagp c r) f = f (c.map intp) (r.map rowp) := rfl
theorem any_not {α : Type} (l : List α) (f : α → Bool) : (!l.any fun x => !f x) = l.all f := by
  induction l with
  | nil => rfl
  | cons a l ih => simp only [List.any_cons, List.all_cons, Bool.not_or, Bool.not_not, ih]
def upd (f : Nat → Bool) (v : Nat) : Nat → Bool := fun k => bif k == 0 + v * 1 then true else f k
def goC : (Nat → Bool) → List Int → Option (Nat → Bool)
  | f, [] => some f
  | f, c :: r => bif (decide (0 ≤ c) && decide (c ≤ 15)) && !f c.toNat then goC (upd f c.toNat) r else none
noncomputable def M1 (l1 l2 l3 : List PV) (n i : Int) (f : Nat → Bool) : Option PV := L_bag_May_1 l1 l2 l3 n i (f 0) (f 1) (f 2) (f 3) (f 4) (f 5) (f 6) (f 7) (f 8) (f 9) (f 10) (f 11) (f 12) (f 13) (f 14) (f 15)
noncomputable def M2 (l1 l2 l3 : List PV) (n i : Int) (f : Nat → Bool) : Option PV := L_bag_May_2 l1 l2 l3 n i (f 0) (f 1) (f 2) (f 3) (f 4) (f 5) (f 6) (f 7) (f 8) (f 9) (f 10) (f 11) (f 12) (f 13) (f 14) (f 15)
theorem load16 (f : Nat → Bool) : ∀ v : Nat, v < 16 → PV.load 17 (.agg [.bool (f 0), .bool (f 1), .bool (f 2), .bool (f 3), .bool (f 4), .bool (f 5), .bool (f 6), .bool (f 7), .bool (f 8), .bool (f 9), .bool (f 10), .bool (f 11), .bool (f 12), .bool (f 13), .bool (f 14), .bool (f 15)]) (0 + v * 1) 0 = some (.bool (f v))
  | 0, _ => rfl | 1, _ => rfl | 2, _ => rfl | 3, _ => rfl | 4, _ => rfl | 5, _ => rfl | 6, _ => rfl | 7, _ => rfl
  | 8, _ => rfl | 9, _ => rfl | 10, _ => rfl | 11, _ => rfl | 12, _ => rfl | 13, _ => rfl | 14, _ => rfl | 15, _ => rfl
  | n + 16, h => by omega
theorem may1_loop (cols : List Int) (rows : List PV) (hl : cols.length ≤ 9223372036854775807) : ∀ (k i : Nat) (f : Nat → Bool), i + k = cols.length →
    M1 (cols.map intp) rows (cols.map intp) (cols.length : Int) (i : Int) f = match goC f (cols.drop i) with | some f' => M2 (cols.map intp) rows rows ((rows.length : Nat) : Int) 0 f' | none => some (.bool false)
  | 0, i, f, h => by
    unfold M1
    rw [L_bag_May_1_eq, show i = cols.length by omega]
    simp only [ge_len, cond_false, List.drop_length, goC]
    rfl
  | k + 1, i, f, h => by
    have hi : i < cols.length := by omega
    unfold M1
    rw [L_bag_May_1_eq, List.drop_eq_getElem_cons hi, goC]
    simp only [lt_len hi, nat_le, cond_true, Int.toNat_natCast, List.getElem?_map, List.getElem?_eq_getElem hi, Option.map_some, Option.bind_some, c_intp]
    by_cases h0 : cols[i] < 0
    · rw [decide_eq_true h0, decide_eq_false (show ¬ 0 ≤ cols[i] by omega)]; rfl
    rw [decide_eq_false h0, decide_eq_true (show 0 ≤ cols[i] by omega)]
    by_cases h15 : cols[i] > 15
    · rw [decide_eq_true h15, decide_eq_false (show ¬ cols[i] ≤ 15 by omega)]; rfl
    rw [decide_eq_false h15, decide_eq_true (show cols[i] ≤ 15 by omega), decide_eq_true (show cols[i] < 16 by omega)]
    simp only [cond_false, Bool.and_self, cond_true, Bool.true_and, load16 f cols[i].toNat (by omega), Option.bind_some, c_b_mk]
    cases hf : f cols[i].toNat with
    | true => rfl
    | false =>
      simp only [cond_false, Bool.not_false, cond_true, decide_eq_true (show 0 + cols[i].toNat * 1 + 1 ≤ 16 by omega), Bool.and_true]
      rw [wrap64 (by omega) (by omega)]
      exact may1_loop cols rows hl k (i + 1) (upd f cols[i].toNat) (by omega)
theorem goC_iff : ∀ (cols : List Int) (f : Nat → Bool), (goC f cols).isSome = true ↔ (∀ c ∈ cols, (0 ≤ c ∧ c ≤ 15) ∧ f c.toNat = false) ∧ cols.Nodup
  | [], f => by simp [goC]
  | c :: r, f => by
    unfold goC
    cases hb : (decide (0 ≤ c) && decide (c ≤ 15)) && !f c.toNat with
    | false =>
      simp only [cond_false, Option.isSome_none, Bool.false_eq_true, false_iff, not_and]
      intro h
      have := h c (by simp)
      rw [decide_eq_true this.1.1, decide_eq_true this.1.2, this.2] at hb
      cases hb
    | true =>
      simp only [cond_true]
      rw [goC_iff r]
      simp only [Bool.and_eq_true, decide_eq_true_eq, Bool.not_eq_true'] at hb
      obtain ⟨⟨c0, c15⟩, hf⟩ := hb
      simp only [List.nodup_cons, List.mem_cons, forall_eq_or_imp, upd, Nat.zero_add, Nat.mul_one]
      constructor
      · rintro ⟨h1, h2⟩
        refine ⟨⟨⟨⟨c0, c15⟩, hf⟩, fun x hx => ⟨(h1 x hx).1, ?_⟩⟩, ?_, h2⟩
        · have := (h1 x hx).2
          cases e : (x.toNat == c.toNat) with
          | true => rw [e] at this; cases this
          | false => rw [e] at this; exact this
        · intro hc
          have := (h1 c hc).2
          rw [beq_t rfl] at this; cases this
      · rintro ⟨⟨_, h1⟩, h2, h3⟩
        refine ⟨fun x hx => ⟨(h1 x hx).1, ?_⟩, h3⟩
        have hne : x ≠ c := fun e => h2 (e ▸ hx)
        have := (h1 x hx).1
        rw [beq_f (show x.toNat ≠ c.toNat by omega)]
        exact (h1 x hx).2
def colsB (cols : List Int) : Bool := (goC (fun _ => false) cols).isSome
theorem colsB_iff (cols : List Int) : colsB cols = true ↔ (∀ c ∈ cols, 0 ≤ c ∧ c ≤ 15) ∧ cols.Nodup := by
  unfold colsB
  rw [goC_iff]
  simp
def rowB (n : Nat) (r : List Val) : Bool := decide (r.length = n) && r.all mayV
def mayB (c : List Int) (r : List (List Val)) : Bool := colsB c && r.all (rowB c.length) && decide (r.length ≤ 5000)
theorem w_mayB1 (v : Val) : wc W n_bag_May_1 [v.pv] = some (.bool (!mayV v)) := by
  have h := e_bag_May_1 v.K v.N
  rw [Val.fold] at h
  rw [h, w_val_May]; rfl
theorem w_bag_May (c : List Int) (r : List (List Val)) (hc : c.length ≤ 9223372036854775807) (hr : r.length ≤ 9223372036854775807) (hl : ∀ x ∈ r, x.length ≤ 9223372036854775807) : wc W n_bag_May [bagp c r] = some (.bool (mayB c r)) := by
  have h := e_bag_May (c.map intp) (r.map rowp)
  rw [intsp_fold, tabp_fold, bagp_fold] at h
  have h1 := may1_loop c (r.map rowp) hc c.length 0 (fun _ => false) (by omega)
  rw [List.drop_zero] at h1
  rw [h, List.length_map]
  refine h1.trans ?_
  unfold mayB colsB
  cases hg : goC (fun _ => false) c with
  | none => rfl
  | some f =>
    simp only [Option.isSome_some, Bool.true_and, List.length_map]
    rw [loop_all (fun i => M2 (c.map intp) (r.map rowp) (r.map rowp) (r.length : Int) i f) r.length (fun i => (r[i]?).all (rowB c.length)) (some (.bool false)) (some (.bool (decide (r.length ≤ 5000)))) ?_ ?_, all_get]
    · cases r.all (rowB c.length) <;> rfl
    · intro i hi
      unfold M2
      rw [L_bag_May_2_eq]
      simp only [List.length_map, lt_len hi, nat_le, cond_true, Int.toNat_natCast, List.getElem?_map, List.getElem?_eq_getElem hi, Option.map_some, Option.bind_some, c_rowp, rowp_fold, Option.all_some, w_anyVal r[i] n_bag_May_1 [] [] (fun v => !mayV v) (hl _ (List.getElem_mem hi)) (fun x _ => w_mayB1 x), c_b_mk]
      rw [wrap64 (by omega) (by omega)]
      unfold rowB
      by_cases e : r[i].length = c.length
      · rw [bne_f (by rw [e]), decide_eq_true e, ← any_not]
        cases r[i].any fun v => !mayV v <;> rfl
      · rw [bne_t (by omega), decide_eq_false e]; rfl
    · unfold M2
      rw [L_bag_May_2_eq]
      simp only [List.length_map, ge_len, cond_false]
      congr 2
      have : ((r.length : Int) ≤ 5000) = (r.length ≤ 5000) := by apply propext; omega
      simp only [this]
theorem colsB_len {c : List Int} (h : colsB c = true) : c.length ≤ 16 := by
  obtain ⟨h1, h2⟩ := (colsB_iff c).1 h
  have hsub : c ⊆ (List.range 16).map fun n : Nat => (n : Int) := by
    intro x hx
    have := h1 x hx
    rw [List.mem_map]
    exact ⟨x.toNat, by simp; omega, by omega⟩
  have := List.Nodup.length_le_of_subset h2 hsub
  simpa using this
theorem mayB_row {c : List Int} {r : List (List Val)} (h : mayB c r = true) : c.length ≤ 16 ∧ r.length ≤ 5000 ∧ ∀ x ∈ r, x.length = c.length ∧ x.all mayV = true := by
  unfold mayB at h
  simp only [Bool.and_eq_true, decide_eq_true_eq, List.all_eq_true] at h
  refine ⟨colsB_len h.1.1, h.2, fun x hx => ?_⟩
  have := h.1.2 x hx
  unfold rowB at this
  simp only [Bool.and_eq_true, decide_eq_true_eq] at this
  exact this
def bagR (x : Option (List Int × List (List Val))) : PV := match x with | some b => .tup [bagp b.1 b.2, .bool true] | none => .tup [bagp [] [], .bool false]
end Go.Cf

namespace Go.Cf
open Go Go.Ab
set_option linter.unusedVariables false
set_option linter.unusedSimpArgs false
theorem cat_len {α : Type} (ls : List (List α)) (i : Nat) (hi : i < ls.length) : (ls.drop i).flatten.length = ls[i].length + (ls.drop (i + 1)).flatten.length := by
  rw [List.drop_eq_getElem_cons hi, List.flatten_cons, List.length_append]
theorem grow_int (n : Nat) (h : n ≤ 4294967296) : W n_slices_Grow_int_int true [.nil 0, .pv (.int .i64 (n : Int))] [] = some (.view 0 0 none, [.row false 0 0 []]) := by
  rw [o_slices_Grow_int_int_r0_1, decide_eq_false (show ¬ (n : Int) < 0 by omega)]
  simp only [cond_false, J_slices_Grow_int_int_r0_1_eq]
  rw [wrap64 (by omega) (by omega)]
  by_cases h0 : (n : Int) - 0 > 0
  · rw [decide_eq_true h0, decide_eq_true (show (n : Int) - 0 ≤ 4294967296 by omega)]
    have : decide ((0 : Int) < (n : Int) - 0) = true := decide_eq_true h0
    simp
  · rw [decide_eq_false h0]; rfl
theorem catI1 (ls : List (List Int)) (hn : ls.length ≤ 4294967296) (hl : ls.flatten.length ≤ 4294967296) : ∀ (k i s : Nat), i + k = ls.length → s + (ls.drop i).flatten.length = ls.flatten.length →
    L_slices_Concat_int_int_1 (ls.map intsp) (s : Int) (ls.map intsp) (ls.length : Int) (i : Int) = L_slices_Concat_int_int_2 (ls.map intsp) (ls.length : Int) 0 []
  | 0, i, s, h, hs => by
    rw [L_slices_Concat_int_int_1_eq, show i = ls.length by omega]
    simp only [ge_len, cond_false, grow_int s (by omega), Option.bind_some, List.length_map]
    rfl
  | k + 1, i, s, h, hs => by
    have hi : i < ls.length := by omega
    have hc := cat_len ls i hi
    rw [L_slices_Concat_int_int_1_eq]
    simp only [lt_len hi, nat_le, cond_true, Int.toNat_natCast, List.getElem?_map, List.getElem?_eq_getElem hi, Option.map_some, Option.bind_some, c_intsp, List.length_map]
    rw [show IntKind.wrap .i64 ((s : Int) + (ls[i].length : Int)) = ((s + ls[i].length : Nat) : Int) by rw [wrap64 (by omega) (by omega)]; omega, decide_eq_false (by omega), wrap_succ (by omega)]
    exact catI1 ls hn hl k (i + 1) (s + ls[i].length) (by omega) (by omega)
theorem catI2 (ls : List (List Int)) (hn : ls.length ≤ 4294967296) : ∀ (k i : Nat) (acc : List Int), i + k = ls.length → acc.length + (ls.drop i).flatten.length ≤ 4294967296 →
    L_slices_Concat_int_int_2 (ls.map intsp) (ls.length : Int) (i : Int) (acc.map intp) = some (intsp (acc ++ (ls.drop i).flatten))
  | 0, i, acc, h, hl => by
    rw [L_slices_Concat_int_int_2_eq, show i = ls.length by omega]
    simp
  | k + 1, i, acc, h, hl => by
    have hi : i < ls.length := by omega
    have hc := cat_len ls i hi
    rw [L_slices_Concat_int_int_2_eq]
    simp only [lt_len hi, nat_le, cond_true, Int.toNat_natCast, List.getElem?_map, List.getElem?_eq_getElem hi, Option.map_some, Option.bind_some, c_intsp, List.length_map, Bool.true_and, decide_eq_true (show acc.length + ls[i].length ≤ 4294967296 by omega)]
    rw [wrap_succ (by omega)]
    have := catI2 ls hn k (i + 1) (acc ++ ls[i]) (by omega) (by simp only [List.length_append]; omega)
    rw [List.map_append] at this
    rw [this, List.drop_eq_getElem_cons hi, List.flatten_cons, List.append_assoc]
theorem w_ConcatI (ls : List (List Int)) (hn : ls.length ≤ 4294967296) (hl : ls.flatten.length ≤ 4294967296) : wc W n_slices_Concat_int_int [.slice 0 (ls.map intsp)] = some (intsp ls.flatten) := by
  rw [e_slices_Concat_int_int, List.length_map]
  refine (catI1 ls hn hl ls.length 0 0 (by omega) (by simp)).trans ?_
  have := catI2 ls hn ls.length 0 [] (by omega) (by simpa using hl)
  simpa using this
theorem grow_val (n : Nat) (h : n ≤ 4294967296) : W n_slices_Grow_api_Val_api_Val true [.nil 3, .pv (.int .i64 (n : Int))] [] = some (.view 0 0 none, [.row false 0 3 []]) := by
  rw [o_slices_Grow_api_Val_api_Val_r0_1, decide_eq_false (show ¬ (n : Int) < 0 by omega)]
  simp only [cond_false, J_slices_Grow_api_Val_api_Val_r0_1_eq]
  rw [wrap64 (by omega) (by omega)]
  by_cases h0 : (n : Int) - 0 > 0
  · rw [decide_eq_true h0, decide_eq_true (show (n : Int) - 0 ≤ 4294967296 by omega)]
    have : decide ((0 : Int) < (n : Int) - 0) = true := decide_eq_true h0
    simp
  · rw [decide_eq_false h0]; rfl
theorem catV1 (ls : List (List Val)) (hn : ls.length ≤ 4294967296) (hl : ls.flatten.length ≤ 4294967296) : ∀ (k i s : Nat), i + k = ls.length → s + (ls.drop i).flatten.length = ls.flatten.length →
    L_slices_Concat_api_Val_api_Val_1 (ls.map rowp) (s : Int) (ls.map rowp) (ls.length : Int) (i : Int) = L_slices_Concat_api_Val_api_Val_2 (ls.map rowp) (ls.length : Int) 0 []
  | 0, i, s, h, hs => by
    rw [L_slices_Concat_api_Val_api_Val_1_eq, show i = ls.length by omega]
    simp only [ge_len, cond_false, grow_val s (by omega), Option.bind_some, List.length_map]
    rfl
  | k + 1, i, s, h, hs => by
    have hi : i < ls.length := by omega
    have hc := cat_len ls i hi
    rw [L_slices_Concat_api_Val_api_Val_1_eq]
    simp only [lt_len hi, nat_le, cond_true, Int.toNat_natCast, List.getElem?_map, List.getElem?_eq_getElem hi, Option.map_some, Option.bind_some, c_rowp, List.length_map]
    rw [show IntKind.wrap .i64 ((s : Int) + (ls[i].length : Int)) = ((s + ls[i].length : Nat) : Int) by rw [wrap64 (by omega) (by omega)]; omega, decide_eq_false (by omega), wrap_succ (by omega)]
    exact catV1 ls hn hl k (i + 1) (s + ls[i].length) (by omega) (by omega)
theorem catV2 (ls : List (List Val)) (hn : ls.length ≤ 4294967296) : ∀ (k i : Nat) (acc : List Val), i + k = ls.length → acc.length + (ls.drop i).flatten.length ≤ 4294967296 →
    L_slices_Concat_api_Val_api_Val_2 (ls.map rowp) (ls.length : Int) (i : Int) (acc.map Val.pv) = some (rowp (acc ++ (ls.drop i).flatten))
  | 0, i, acc, h, hl => by
    rw [L_slices_Concat_api_Val_api_Val_2_eq, show i = ls.length by omega]
    simp
  | k + 1, i, acc, h, hl => by
    have hi : i < ls.length := by omega
    have hc := cat_len ls i hi
    rw [L_slices_Concat_api_Val_api_Val_2_eq]
    simp only [lt_len hi, nat_le, cond_true, Int.toNat_natCast, List.getElem?_map, List.getElem?_eq_getElem hi, Option.map_some, Option.bind_some, c_rowp, List.length_map, Bool.true_and, decide_eq_true (show acc.length + ls[i].length ≤ 4294967296 by omega)]
    rw [wrap_succ (by omega)]
    have := catV2 ls hn k (i + 1) (acc ++ ls[i]) (by omega) (by simp only [List.length_append]; omega)
    rw [List.map_append] at this
    rw [this, List.drop_eq_getElem_cons hi, List.flatten_cons, List.append_assoc]
theorem w_ConcatV (ls : List (List Val)) (hn : ls.length ≤ 4294967296) (hl : ls.flatten.length ≤ 4294967296) : wc W n_slices_Concat_api_Val_api_Val [.slice 0 (ls.map rowp)] = some (rowp ls.flatten) := by
  rw [e_slices_Concat_api_Val_api_Val, List.length_map]
  refine (catV1 ls hn hl ls.length 0 0 (by omega) (by simp)).trans ?_
  have := catV2 ls hn ls.length 0 [] (by omega) (by simpa using hl)
  simpa using this
def prodR (r s : List (List Val)) : List (List Val) := r.flatMap fun x => s.map fun y => x ++ y
theorem cross3 (C D E F : List PV) (x : List Val) (A : List PV) (n i : Int) (s : List (List Val)) (hx : x.length ≤ 100) (hs : ∀ y ∈ s, y.length ≤ 100) (hsn : s.length ≤ 5000) (X Y : List PV) : ∀ (k j : Nat) (acc : List (List Val)), j + k = s.length → acc.length + k ≤ 4294967295 →
    L_bag_Cross_3 C D (x.map Val.pv) A n i (s.map rowp) (s.length : Int) (j : Int) X Y E (acc.map rowp) = L_bag_Cross_2 C D A n (IntKind.wrap .i64 (i + 1)) X Y E ((acc ++ (s.drop j).map fun y => x ++ y).map rowp)
  | 0, j, acc, h, hl => by
    rw [L_bag_Cross_3_eq, show j = s.length by omega]
    simp
  | k + 1, j, acc, h, hl => by
    have hj : j < s.length := by omega
    have hy := hs _ (List.getElem_mem hj)
    rw [L_bag_Cross_3_eq]
    have hc := w_ConcatV [x, s[j]] (by simp) (by simp; omega)
    simp only [List.map_cons, List.map_nil, List.flatten_cons, List.flatten_nil, List.append_nil] at hc
    simp only [lt_len hj, nat_le, cond_true, Int.toNat_natCast, List.getElem?_map, List.getElem?_eq_getElem hj, Option.map_some, Option.bind_some, c_rowp, rowp_fold, hc, List.length_map, Bool.true_and, decide_eq_true (show acc.length + 1 ≤ 4294967296 by omega)]
    rw [wrap_succ (by omega)]
    have := cross3 C D E F x A n i s hx hs hsn X Y k (j + 1) (acc ++ [x ++ s[j]]) (by omega) (by simp; omega)
    simp only [List.map_append, List.map_cons, List.map_nil] at this
    simp only [rowp, List.map_append] at this ⊢
    rw [this, List.drop_eq_getElem_cons hj]
    simp only [List.map_cons, List.append_assoc, List.cons_append, List.nil_append, rowp, List.map_append]
theorem cross2 (C D E F : List PV) (r s : List (List Val)) (hr : ∀ x ∈ r, x.length ≤ 100) (hs : ∀ y ∈ s, y.length ≤ 100) (hl : r.length ≤ 5000) (hsn : s.length ≤ 5000) (X Y : List PV) : ∀ (k i : Nat) (acc : List (List Val)), i + k = r.length → acc.length + (prodR (r.drop i) s).length ≤ 4294967295 →
    L_bag_Cross_2 C (s.map rowp) (r.map rowp) (r.length : Int) (i : Int) X Y E (acc.map rowp) = some (.tup [.agg [.slice 0 E, tabp (acc ++ prodR (r.drop i) s)], .bool true])
  | 0, i, acc, h, hb => by
    rw [L_bag_Cross_2_eq, show i = r.length by omega]
    simp [prodR]
  | k + 1, i, acc, h, hb => by
    have hi : i < r.length := by omega
    have hp : prodR (r.drop i) s = (s.map fun y => r[i] ++ y) ++ prodR (r.drop (i + 1)) s := by
      rw [List.drop_eq_getElem_cons hi]; rfl
    rw [hp] at hb ⊢
    simp only [List.length_append, List.length_map] at hb
    rw [L_bag_Cross_2_eq]
    simp only [lt_len hi, nat_le, cond_true, Int.toNat_natCast, List.getElem?_map, List.getElem?_eq_getElem hi, Option.map_some, Option.bind_some, c_rowp, List.length_map]
    have h3 := cross3 C (s.map rowp) E F r[i] (r.map rowp) (r.length : Int) (i : Int) s (hr _ (List.getElem_mem hi)) hs hsn X Y s.length 0 acc (by omega) (by omega)
    refine h3.trans ?_
    rw [wrap_succ (by omega), List.drop_zero]
    have := cross2 C D E F r s hr hs hl hsn X Y k (i + 1) (acc ++ s.map fun y => r[i] ++ y) (by omega) (by simp only [List.length_append, List.length_map]; omega)
    rw [this, List.append_assoc]
def crossB (c : List Int) (r : List (List Val)) (d : List Int) (s : List (List Val)) : Option (List Int × List (List Val)) :=
  bif mayB c r && mayB d s && mayB (c ++ d) [] && decide (r.length * s.length ≤ 5000) then some (c ++ d, prodR r s) else none
theorem prodR_len (r s : List (List Val)) : (prodR r s).length = r.length * s.length := by
  unfold prodR
  induction r with
  | nil => simp
  | cons a r ih => rw [List.flatMap_cons, List.length_append, ih, List.length_map, List.length_cons, Nat.succ_mul]; omega
theorem w_Cross (c : List Int) (r : List (List Val)) (d : List Int) (s : List (List Val)) (hcd : c.length + d.length ≤ 4294967296) (hr : r.length ≤ 9223372036854775807) (hs : s.length ≤ 9223372036854775807)
    (hrl : ∀ x ∈ r, x.length ≤ 9223372036854775807) (hsl : ∀ x ∈ s, x.length ≤ 9223372036854775807) : wc W n_bag_Cross [bagp c r, bagp d s] = some (bagR (crossB c r d s)) := by
  have h := e_bag_Cross (c.map intp) (r.map rowp) (d.map intp) (s.map rowp)
  rw [intsp_fold, intsp_fold, tabp_fold, tabp_fold, bagp_fold, bagp_fold] at h
  have hc := w_ConcatI [c, d] (by simp) (by simpa using hcd)
  simp only [List.map_cons, List.map_nil, List.flatten_cons, List.flatten_nil, List.append_nil] at hc
  have e0 : PV.agg [intsp (c ++ d), PV.slice 0 []] = bagp (c ++ d) [] := rfl
  rw [h, hc]
  simp only [Option.bind_some, c_intsp, intsp_fold, e0, w_bag_May c r (by omega) hr hrl, w_bag_May d s (by omega) hs hsl, w_bag_May (c ++ d) [] (by simp; omega) (by simp) (by simp), c_b_mk, List.length_map]
  unfold crossB
  cases h1 : mayB c r with
  | false => rfl
  | true =>
    cases h2 : mayB d s with
    | false => rfl
    | true =>
      cases h3 : mayB (c ++ d) [] with
      | false => rfl
      | true =>
        obtain ⟨a1, a2, a3⟩ := mayB_row h1
        obtain ⟨b1, b2, b3⟩ := mayB_row h2
        have hm : r.length * s.length ≤ 5000 * 5000 := Nat.mul_le_mul a2 b2
        have hw : IntKind.wrap .i64 ((r.length : Int) * (s.length : Int)) = ((r.length * s.length : Nat) : Int) := by
          rw [← Int.natCast_mul, wrap64 (by omega) (by omega)]
        rw [hw]
        by_cases h4 : r.length * s.length ≤ 5000
        · rw [decide_eq_true h4, decide_eq_false (show ¬ ((r.length * s.length : Nat) : Int) > 5000 by omega)]
          simp only [Bool.not_true, cond_false, Bool.and_self, cond_true, J_bag_Cross_1_eq, List.length_map]
          have := cross2 (d.map intp) [] ((c ++ d).map intp) [] r s (fun x hx => by have := (a3 x hx).1; omega) (fun x hx => by have := (b3 x hx).1; omega) a2 b2 [] [] r.length 0 [] (by omega) (by rw [List.drop_zero, prodR_len]; simp; omega)
          simp only [List.map_nil, List.drop_zero, List.nil_append] at this
          exact this
        · rw [decide_eq_false h4, decide_eq_true (show ((r.length * s.length : Nat) : Int) > 5000 by omega)]
          rfl
end Go.Cf

namespace Go.Cf
open Go Go.Ab
set_option linter.unusedVariables false
set_option linter.unusedSimpArgs false
mutual
def Ex.lens : Ex → Prop
  | .mk _ _ _ l => l.length ≤ 9223372036854775807 ∧ Ex.lensL l
def Ex.lensL : List Ex → Prop
  | [] => True
  | e :: r => e.lens ∧ Ex.lensL r
end
theorem Ex.lensL_mem : ∀ {l : List Ex}, Ex.lensL l → ∀ e ∈ l, e.lens
  | x :: r, h, e, he => by
    rcases List.mem_cons.1 he with rfl | he
    · exact h.1
    · exact Ex.lensL_mem h.2 e he
theorem Ex.lens_l {e : Ex} (h : e.lens) : e.l.length ≤ 9223372036854775807 ∧ ∀ x ∈ e.l, x.lens := by cases e; exact ⟨h.1, Ex.lensL_mem h.2⟩
theorem w_sizeR : ∀ (k : Nat) (e : Ex), e.sz ≤ k → e.lens → ∀ m : Nat, m ≤ 1000000 → wc W n_roadbookref02_size [e.pv, .int .i64 (m : Int)] = some (.int .i64 ((min e.sz (m + 1) : Nat) : Int))
  | 0, e, h, _, _, _ => by have := e.sz_pos; omega
  | k + 1, e, h, he, m, hm => by
    have hh := e_roadbookref02_size e.op e.col e.v.K e.v.N (e.l.map Ex.pv) (m : Int)
    rw [Ex.fold] at hh
    rw [hh]
    have hsz : e.sz = Ex.szL e.l + 1 := by cases e; rfl
    obtain ⟨hl, hx⟩ := Ex.lens_l he
    have loop : ∀ (q i n : Nat), i + q = e.l.length → n ≤ m + 1 →
        L_roadbookref02_size_1 (m : Int) e.op e.col e.v.K e.v.N (e.l.map Ex.pv) (n : Int) (i : Int) = some (.int .i64 ((min (n + Ex.szL (e.l.drop i)) (m + 1) : Nat) : Int)) := fun q => by
      induction q with
      | zero =>
        intro i n hi hn
        rw [L_roadbookref02_size_1_eq, show i = e.l.length by omega, List.length_map]
        simp only [ge_len, cond_false, List.drop_length, Ex.szL, Nat.add_zero, Nat.min_eq_left hn]
      | succ q ih =>
        intro i n hi hn
        have hi' : i < e.l.length := by omega
        rw [L_roadbookref02_size_1_eq, List.length_map]
        simp only [lt_len hi', cond_true]
        by_cases hnm : n ≤ m
        · have hm' := Ex.sz_mem (List.getElem_mem hi')
          rw [decide_eq_true (show (n : Int) ≤ (m : Int) by omega), cond_true, J_roadbookref02_size_2_eq]
          simp only [nat_le, cond_true, Int.toNat_natCast, List.getElem?_map, List.getElem?_eq_getElem hi', Option.map_some, Option.bind_some, Ex.c_mk, Ex.fold]
          rw [wrap64 (by omega) (by omega), show ((m : Int) - (n : Int)) = ((m - n : Nat) : Int) by omega, w_sizeR k e.l[i] (by omega) (hx _ (List.getElem_mem hi')) (m - n) (by omega)]
          simp only [Option.bind_some, c_i64_mk]
          rw [show ((n : Int) + ((min e.l[i].sz (m - n + 1) : Nat) : Int)) = ((n + min e.l[i].sz (m - n + 1) : Nat) : Int) by omega, wrap_nat (by omega), wrap_succ (by omega), ih (i + 1) (n + min e.l[i].sz (m - n + 1)) (by omega) (by omega), Ex.sz_drop e.l i hi']
          congr 3
          omega
        · rw [decide_eq_false (show ¬ (n : Int) ≤ (m : Int) by omega), cond_false]
          congr 3
          omega
    have := loop e.l.length 0 1 (by omega) (by omega)
    rw [List.drop_zero] at this
    rw [show (1 : Int) = ((1 : Nat) : Int) from rfl, show (0 : Int) = ((0 : Nat) : Int) from rfl, this]
    congr 3
    omega
theorem w_FewR (e : Ex) (he : e.lens) : wc W n_roadbookref02_Few [e.pv, .int .i64 60] = some (.bool (decide (e.sz ≤ 60))) := by
  have h := e_roadbookref02_Few e.op e.col e.v.K e.v.N (e.l.map Ex.pv) 60
  rw [Ex.fold] at h
  rw [h, show (60 : Int) = ((60 : Nat) : Int) from rfl, w_sizeR e.sz e (Nat.le_refl _) he 60 (by omega)]
  simp only [Option.bind_some, c_i64_mk]
  congr 3
  first | (rw [decide_eq_decide]; omega) | exact propext (by omega)
def exsp (l : List Ex) : PV := .slice 6 (l.map Ex.pv)
theorem exsp_fold (l : List Ex) : PV.slice 6 (l.map Ex.pv) = exsp l := rfl
theorem loop_all2 {α : Type} [DecidableEq α] {R : Type} (L : Int → Option R) (a b : List α) (e : a.length = b.length) (r s : Option R) (hs : ∀ i : Nat, ∀ (h : i < a.length) (h' : i < b.length), L (i : Int) = bif decide (a[i] = b[i]) then L ((i : Int) + 1) else r) (he : L (a.length : Int) = s) :
    L 0 = bif decide (a = b) then s else r := by
  rw [loop_all L a.length (fun i => decide (a[i]? = b[i]?)) r s (fun i hi => ?_) he, all_eq a b e]
  have hi' : i < b.length := by omega
  rw [hs i hi hi', List.getElem?_eq_getElem hi, List.getElem?_eq_getElem hi']
  simp only [Option.some.injEq]
theorem w_Ints (a b : List Int) (ha : a.length ≤ 9223372036854775807) : wc W n_roadbookref02_Ints [intsp a, intsp b] = some (.bool (decide (a = b))) := by
  have h := e_roadbookref02_Ints (a.map intp) (b.map intp)
  rw [intsp_fold, intsp_fold] at h
  rw [h, List.length_map, List.length_map]
  by_cases e : a.length = b.length
  · rw [bne_f (by rw [e]), cond_false]
    rw [loop_all2 (fun i => L_roadbookref02_Ints_1 (a.map intp) (b.map intp) i) a b e (some (.bool false)) (some (.bool true)) ?_ ?_]
    · cases decide (a = b) <;> rfl
    · intro i hi hi'
      rw [L_roadbookref02_Ints_1_eq]
      simp only [List.length_map, lt_len hi, nat_le, cond_true, Int.toNat_natCast, List.getElem?_map, List.getElem?_eq_getElem hi, List.getElem?_eq_getElem hi', Option.map_some, Option.bind_some, c_intp]
      rw [wrap64 (by omega) (by omega)]
      by_cases h : a[i] = b[i]
      · rw [bne_f h, decide_eq_true h]; rfl
      · rw [bne_t h, decide_eq_false h]; rfl
    · rw [L_roadbookref02_Ints_1_eq]; simp only [List.length_map, ge_len, cond_false]
  · rw [bne_t (by omega), decide_eq_false (fun h => e (by rw [h]))]; rfl
theorem w_RowR (a b : List Val) (ha : a.length ≤ 9223372036854775807) : wc W n_roadbookref03_Row [rowp a, rowp b] = some (.bool (decide (a = b))) := by
  have h := e_roadbookref03_Row (a.map Val.pv) (b.map Val.pv)
  rw [rowp_fold, rowp_fold] at h
  rw [h, List.length_map, List.length_map]
  by_cases e : a.length = b.length
  · rw [bne_f (by rw [e]), cond_false]
    rw [loop_all2 (fun i => L_roadbookref03_Row_1 (a.map Val.pv) (b.map Val.pv) i) a b e (some (.bool false)) (some (.bool true)) ?_ ?_]
    · cases decide (a = b) <;> rfl
    · intro i hi hi'
      rw [L_roadbookref03_Row_1_eq]
      simp only [List.length_map, lt_len hi, nat_le, cond_true, Int.toNat_natCast, List.getElem?_map, List.getElem?_eq_getElem hi, List.getElem?_eq_getElem hi', Option.map_some, Option.bind_some, Val.c_mk]
      rw [wrap64 (by omega) (by omega)]
      have key : ∀ x y : Val, ((bif (x.K == y.K) then (bif (x.N == y.N) then (some true) else (some false)) else (some false)) : Option Bool) = some (decide (x = y)) := fun x y => by
        cases x; cases y
        simp only [Val.mk.injEq]
        rw [Bool.decide_and]
        rename_i k n k' n'
        show _ = some ((k == k') && (n == n'))
        cases k == k' <;> cases n == n' <;> rfl
      rw [key]
      simp only [Option.bind_some, c_b_mk]
      cases decide (a[i] = b[i]) <;> rfl
    · rw [L_roadbookref03_Row_1_eq]; simp only [List.length_map, ge_len, cond_false]
  · rw [bne_t (by omega), decide_eq_false (fun h => e (by rw [h]))]; rfl
theorem w_Like (c : List Int) (r : List (List Val)) (d : List Int) (s : List (List Val)) (hc : c.length ≤ 9223372036854775807) (hr : r.length ≤ 9223372036854775807) (hl : ∀ x ∈ r, x.length ≤ 9223372036854775807) :
    wc W n_roadbookref03_Like [bagp c r, bagp d s] = some (.bool (decide (c = d) && decide (r = s))) := by
  have h := e_roadbookref03_Like (c.map intp) (r.map rowp) (d.map intp) (s.map rowp)
  rw [intsp_fold, intsp_fold, tabp_fold, tabp_fold, bagp_fold, bagp_fold] at h
  rw [h, w_Ints c d hc, List.length_map, List.length_map]
  simp only [Option.bind_some, c_b_mk]
  cases decide (c = d) with
  | false => rfl
  | true =>
    simp only [Bool.not_true, cond_false, Bool.true_and]
    by_cases e : r.length = s.length
    · rw [bne_f (by rw [e]), cond_false, J_roadbookref03_Like_1_eq]
      rw [loop_all2 (fun i => L_roadbookref03_Like_2 (c.map intp) (r.map rowp) (d.map intp) (s.map rowp) i) r s e (some (.bool false)) (some (.bool true)) ?_ ?_]
      · cases decide (r = s) <;> rfl
      · intro i hi hi'
        rw [L_roadbookref03_Like_2_eq]
        simp only [List.length_map, lt_len hi, nat_le, cond_true, Int.toNat_natCast, List.getElem?_map, List.getElem?_eq_getElem hi, List.getElem?_eq_getElem hi', Option.map_some, Option.bind_some, c_rowp, rowp_fold, w_RowR _ _ (hl _ (List.getElem_mem hi)), c_b_mk]
        rw [wrap64 (by omega) (by omega)]
        cases decide (r[i] = s[i]) <;> rfl
      · rw [L_roadbookref03_Like_2_eq]; simp only [List.length_map, ge_len, cond_false]
    · rw [bne_t (by omega), decide_eq_false (fun h => e (by rw [h]))]; rfl
theorem some_loop (c0 : List Int) (g : Nat) (fs cs : List PV) (r : List (List Val)) (f : List Val → Bool) (hr : r.length ≤ 4294967295) (hl : ∀ x ∈ r, x.length ≤ 4294967296) (hf : ∀ x ∈ r, wc W g (fs ++ [rowp x] ++ cs) = some (.bool (f x))) :
    ∀ (k i : Nat) (a b : List PV) (acc : List (List Val)), i + k = r.length → acc.length ≤ i →
    L_bag_some_1 (.fn g fs cs) (r.map rowp) (r.length : Int) (i : Int) a b (c0.map intp) (acc.map rowp) = some (bagp c0 (acc ++ (r.drop i).filter f))
  | 0, i, a, b, acc, hi, hacc => by
    rw [L_bag_some_1_eq, show i = r.length by omega]
    simp [ge_len]
  | k + 1, i, a, b, acc, hi, hacc => by
    have hi' : i < r.length := by omega
    rw [L_bag_some_1_eq, List.drop_eq_getElem_cons hi', List.filter_cons]
    simp only [lt_len hi', nat_le, cond_true, Int.toNat_natCast, List.getElem?_map, List.getElem?_eq_getElem hi', Option.map_some, Option.bind_some, c_rowp, asFn_mk, rowp_fold, hf _ (List.getElem_mem hi'), c_b_mk]
    have hcl := x_slices_Clone_api_Val_api_Val (r[i].map Val.pv) (by rw [List.length_map]; exact hl _ (List.getElem_mem hi'))
    rw [rowp_fold] at hcl
    rw [wrap_succ (by omega)]
    cases hfx : f r[i] with
    | false =>
      simp only [cond_false, Bool.false_eq_true, if_false]
      exact some_loop c0 g fs cs r f hr hl hf k (i + 1) a b acc (by omega) (by omega)
    | true =>
      simp only [cond_true, hcl, Option.bind_some, c_rowp, rowp_fold, List.length_map, Bool.true_and, decide_eq_true (show acc.length + 1 ≤ 4294967296 by omega), if_true]
      have := some_loop c0 g fs cs r f hr hl hf k (i + 1) a b (acc ++ [r[i]]) (by omega) (by rw [List.length_append, List.length_singleton]; omega)
      rw [List.map_append, List.append_assoc] at this
      exact this
theorem w_some (c : List Int) (r : List (List Val)) (g : Nat) (fs cs : List PV) (f : List Val → Bool) (hc : c.length ≤ 4294967296) (hr : r.length ≤ 4294967295) (hl : ∀ x ∈ r, x.length ≤ 4294967296) (hf : ∀ x ∈ r, wc W g (fs ++ [rowp x] ++ cs) = some (.bool (f x))) :
    wc W n_bag_some [bagp c r, .fn g fs cs] = some (bagp c (r.filter f)) := by
  have h := e_bag_some (c.map intp) (r.map rowp) (.fn g fs cs)
  rw [intsp_fold, tabp_fold, bagp_fold] at h
  have hcl := x_slices_Clone_int_int (c.map intp) (by rw [List.length_map]; exact hc)
  rw [intsp_fold] at hcl
  rw [h, hcl, List.length_map]
  simp only [Option.bind_some, c_intsp]
  have := some_loop c g fs cs r f hr hl hf r.length 0 [] [] [] (by omega) (by simp)
  simpa using this
theorem w_anyEx (l : List Ex) (g : Nat) (fs cs : List PV) (f : Ex → Bool) (hl : l.length ≤ 9223372036854775807) (hf : ∀ x ∈ l, wc W g (fs ++ [x.pv] ++ cs) = some (.bool (f x))) :
    wc W n_slices_ContainsFunc_api_Expr_api_Expr [exsp l, .fn g fs cs] = some (.bool (l.any f)) := by
  have h := e_slices_ContainsFunc_api_Expr_api_Expr (l.map Ex.pv) (.fn g fs cs)
  have h2 := e_slices_IndexFunc_api_Expr_api_Expr (l.map Ex.pv) (.fn g fs cs)
  rw [exsp_fold] at h h2
  have h3 : wc W n_slices_IndexFunc_api_Expr_api_Expr [exsp l, .fn g fs cs] = some (.int .i64 (idxI l f)) := by
    rw [h2, List.length_map]
    refine loop_idx (fun i => L_slices_IndexFunc_api_Expr_api_Expr_1 (l.map Ex.pv) (.fn g fs cs) l.length i) l f (fun n => some (.int .i64 n)) (fun i hi => ?_) ?_
    · rw [L_slices_IndexFunc_api_Expr_api_Expr_1_eq]
      simp only [lt_len hi, nat_le, cond_true, Int.toNat_natCast, List.getElem?_map, List.getElem?_eq_getElem hi, Option.map_some, Option.bind_some, Ex.c_mk, asFn_mk, Ex.fold]
      rw [hf _ (List.getElem_mem hi), wrap64 (by omega) (by omega)]
      simp only [Option.bind_some, c_b_mk]
    · rw [L_slices_IndexFunc_api_Expr_api_Expr_1_eq]; simp
  rw [h, h3]
  simp [← idxI_any]
def keepL (l : List Ex) (c : List Int) (row : List Val) : Bool := l.all fun e => keepE e c row
theorem any_not0 {α : Type} (l : List α) (f : α → Bool) : (!l.any fun x => !f x) = l.all f := by
  induction l with
  | nil => rfl
  | cons a l ih => simp only [List.any_cons, List.all_cons, Bool.not_or, Bool.not_not, ih]
def ROk (r : List Val) : Prop := ∀ v ∈ r, VOk v
theorem w_Keep (c : List Int) (r : List (List Val)) (l : List Ex) (hc : c.length ≤ 4294967296) (hr : r.length ≤ 4294967295) (hl : ∀ x ∈ r, x.length ≤ 4294967296) (hv : ∀ x ∈ r, ROk x) (hll : l.length ≤ 9223372036854775807) (he : ∀ e ∈ l, e.ok ∧ e.vals) :
    wc W n_bag_Keep [bagp c r, exsp l] = some (bagp c (r.filter (keepL l c))) := by
  have h := e_bag_Keep (c.map intp) (r.map rowp) (l.map Ex.pv)
  rw [intsp_fold, tabp_fold, bagp_fold, exsp_fold] at h
  rw [h, w_some c r n_bag_Keep_1 [] [.imm 0 (exsp l) 0, .imm 3 (bagp c r) 0] (keepL l c) hc hr hl ?_]
  · simp only [Option.bind_some, c_bagp]
    rfl
  · intro x hx
    have h1 := e_bag_Keep_1 (x.map Val.pv) (l.map Ex.pv) (c.map intp) (r.map rowp)
    rw [intsp_fold, tabp_fold, bagp_fold, exsp_fold, rowp_fold] at h1
    show wc W n_bag_Keep_1 [rowp x, _, _] = _
    rw [h1, w_anyEx l n_bag_Keep_1_1 [] [.imm 3 (bagp c r) 0, .imm 0 (rowp x) 0] (fun e => !keepE e c x) hll ?_]
    · simp only [Option.bind_some, c_b_mk, any_not0]
      rfl
    · intro e hel
      have h2 := e_bag_Keep_1_1 e.op e.col e.v.K e.v.N (e.l.map Ex.pv) (c.map intp) (r.map rowp) (x.map Val.pv)
      rw [Ex.fold, intsp_fold, tabp_fold, bagp_fold, rowp_fold] at h2
      show wc W n_bag_Keep_1_1 [e.pv, _, _] = _
      rw [h2, w_Keeps e c x (he e hel).1 (he e hel).2 (by omega) (hv x hx)]
      rfl
def inC (c : List Int) (x : Int) : Bool := decide (x ∈ c)
theorem idxI_lt {c : List Int} {x : Int} : decide (idxI c (fun y => x == y) < 0) = !inC c x := by
  have h := idxI_any c (fun y => x == y)
  have h2 : c.any (fun y => x == y) = inC c x := by
    unfold inC
    rw [Bool.eq_iff_iff, List.any_eq_true, decide_eq_true_eq]
    constructor
    · rintro ⟨y, hy, e⟩; rw [beq_iff_eq] at e; subst e; exact hy
    · intro h; exact ⟨x, h, by simp⟩
  rw [h2] at h
  rw [← h]
  by_cases hh : idxI c (fun y => x == y) < 0
  · rw [decide_eq_true hh, decide_eq_false (by omega)]; rfl
  · rw [decide_eq_false hh, decide_eq_true (by omega)]; rfl
theorem idxI_len (c : List Int) (x : Int) : idxI c (fun y => x == y) < (c.length : Int) := by
  unfold idxI
  cases h : c.findIdx? (fun y => x == y) with
  | none => simp only; omega
  | some i =>
    obtain ⟨hi, _⟩ := List.findIdx?_eq_some_iff_getElem.1 h
    simp only; omega
theorem lookR_in {c : List Int} {row : List Val} {x : Int} (h : inC c x = true) (hl : row.length = c.length) : (row[(idxI c (fun y => x == y)).toNat]? = some (lookR c row x)) ∧ 0 ≤ idxI c (fun y => x == y) := by
  have h1 : decide (idxI c (fun y => x == y) < 0) = false := by rw [idxI_lt, h]; rfl
  have h2 := of_decide_eq_false h1
  have h3 := idxI_len c x
  refine ⟨?_, by omega⟩
  unfold lookR
  rw [h1, decide_eq_false (show ¬ idxI c (fun y => x == y) ≥ (row.length : Int) by omega)]
  have hlt : (idxI c (fun y => x == y)).toNat < row.length := by omega
  simp only [cond_false, List.getElem?_eq_getElem hlt, List.getD_eq_getElem?_getD, Option.getD_some]
def atC (c cols : List Int) : List Int := cols.map fun x => idxI c (fun y => x == y)
def pickR (c cols : List Int) (row : List Val) : List Val := cols.map (lookR c row)
theorem pick4 (c cols : List Int) (row : List Val) (hl : row.length = c.length) (hin : ∀ x ∈ cols, inC c x = true) (hn : cols.length ≤ 100) (A : List PV) (n i : Int) (X Y Z : List PV) (out : List (List Val)) (ho : out.length ≤ 4294967295) : ∀ (k j : Nat) (acc : List Val), j + k = cols.length → acc.length = j →
    L_bag_Pick_4 (row.map Val.pv) A n i (cols.length : Int) (j : Int) ((atC c cols).map intp) X Y Z (out.map rowp) (acc.map Val.pv) =
      L_bag_Pick_3 A n (IntKind.wrap .i64 (i + 1)) ((atC c cols).map intp) X Y Z ((out ++ [acc ++ (cols.drop j).map (lookR c row)]).map rowp)
  | 0, j, acc, h, ha => by
    rw [L_bag_Pick_4_eq, show j = cols.length by omega]
    simp only [ge_len, cond_false, List.length_map, Bool.true_and, decide_eq_true (show out.length + 1 ≤ 4294967296 by omega), cond_true, List.drop_length, List.map_nil, List.append_nil, List.map_append, List.map_cons]
    rfl
  | k + 1, j, acc, h, ha => by
    have hj : j < cols.length := by omega
    have hj2 : j < (atC c cols).length := by unfold atC; rw [List.length_map]; exact hj
    obtain ⟨h1, h2⟩ := lookR_in (hin _ (List.getElem_mem hj)) hl
    have he : (atC c cols)[j] = idxI c (fun y => cols[j] == y) := by simp only [atC, List.getElem_map]
    have hlen : ((atC c cols).map intp).length = cols.length := by unfold atC; rw [List.length_map, List.length_map]
    rw [L_bag_Pick_4_eq, hlen]
    simp only [lt_len hj, nat_le, Bool.and_self, cond_true, Int.toNat_natCast, Nat.zero_add, List.getElem?_map, List.getElem?_eq_getElem hj2, Option.map_some, Option.bind_some, c_intp, he, decide_eq_true h2, h1, Val.c_mk, Val.fold, List.length_map, Bool.true_and, decide_eq_true (show acc.length + 1 ≤ 4294967296 by omega)]
    rw [wrap_succ (by omega)]
    have := pick4 c cols row hl hin hn A n i X Y Z out ho k (j + 1) (acc ++ [lookR c row cols[j]]) (by omega) (by rw [List.length_append, List.length_singleton]; omega)
    rw [List.map_append] at this
    rw [List.append_assoc, List.singleton_append] at this
    rw [List.drop_eq_getElem_cons hj, List.map_cons]
    exact this
theorem pick3 (c cols : List Int) (r : List (List Val)) (hl : ∀ x ∈ r, x.length = c.length) (hin : ∀ x ∈ cols, inC c x = true) (hn : cols.length ≤ 100) (hr : r.length ≤ 4294967295) (X Y : List PV) : ∀ (k i : Nat) (acc : List (List Val)), i + k = r.length → acc.length = i →
    L_bag_Pick_3 (r.map rowp) (r.length : Int) (i : Int) ((atC c cols).map intp) X Y (cols.map intp) (acc.map rowp) = some (.tup [bagp cols (acc ++ (r.drop i).map (pickR c cols)), .bool true])
  | 0, i, acc, h, ha => by
    rw [L_bag_Pick_3_eq, show i = r.length by omega]
    simp [ge_len]
  | k + 1, i, acc, h, ha => by
    have hi : i < r.length := by omega
    rw [L_bag_Pick_3_eq]
    have hlen : ((atC c cols).map intp).length = cols.length := by unfold atC; rw [List.length_map, List.length_map]
    simp only [lt_len hi, nat_le, cond_true, Int.toNat_natCast, List.getElem?_map, List.getElem?_eq_getElem hi, Option.map_some, Option.bind_some, c_rowp, hlen]
    have h4 := pick4 c cols r[i] (hl _ (List.getElem_mem hi)) hin hn (r.map rowp) (r.length : Int) (i : Int) X Y (cols.map intp) acc (by omega) cols.length 0 [] (by omega) rfl
    refine h4.trans ?_
    rw [wrap_succ (by omega), List.drop_zero, List.nil_append]
    have := pick3 c cols r hl hin hn hr X Y k (i + 1) (acc ++ [cols.map (lookR c r[i])]) (by omega) (by rw [List.length_append, List.length_singleton]; omega)
    rw [this, List.drop_eq_getElem_cons hi, List.map_cons, List.append_assoc]
    rfl
theorem pick2 (c cols : List Int) (r : List (List Val)) (hl : ∀ x ∈ r, x.length = c.length) (hc : c.length ≤ 100) (hn : cols.length ≤ 100) (hr : r.length ≤ 4294967295) : ∀ (k i : Nat), i + k = cols.length → (∀ x ∈ cols.take i, inC c x = true) →
    L_bag_Pick_2 (cols.map intp) (c.map intp) (r.map rowp) (cols.map intp) (cols.length : Int) (i : Int) ((atC c (cols.take i)).map intp) =
      bif (cols.drop i).all (inC c) then some (.tup [bagp cols (r.map (pickR c cols)), .bool true]) else some (.tup [bagp [] [], .bool false])
  | 0, i, h, hin => by
    rw [L_bag_Pick_2_eq, show i = cols.length by omega]
    have hcl := x_slices_Clone_int_int (cols.map intp) (by rw [List.length_map]; omega)
    rw [intsp_fold] at hcl
    rw [show i = cols.length by omega, List.take_length] at hin
    simp only [ge_len, cond_false, List.drop_length, List.all_nil, cond_true, List.take_length, intsp_fold, hcl, Option.bind_some, c_intsp, List.length_map]
    have := pick3 c cols r hl hin hn hr [] [] r.length 0 [] (by omega) rfl
    simpa using this
  | k + 1, i, h, hin => by
    have hi : i < cols.length := by omega
    rw [L_bag_Pick_2_eq, List.drop_eq_getElem_cons hi, List.all_cons]
    simp only [lt_len hi, nat_le, cond_true, Int.toNat_natCast, List.getElem?_map, List.getElem?_eq_getElem hi, Option.map_some, Option.bind_some, c_intp, intsp_fold, w_Index c cols[i] (by omega), c_i64_mk, idxI_lt]
    cases hx : inC c cols[i] with
    | false => rfl
    | true =>
      have ht : (cols.take i).length = i := by rw [List.length_take]; omega
      have hlen : ((atC c (cols.take i)).map intp).length = i := by unfold atC; rw [List.length_map, List.length_map, ht]
      simp only [Bool.not_true, cond_false, Bool.true_and, hlen, decide_eq_true (show i + 1 ≤ 4294967296 by omega), cond_true]
      rw [wrap_succ (by omega)]
      have := pick2 c cols r hl hc hn hr k (i + 1) (by omega) (fun x hx' => by
        rw [List.take_succ_eq_append_getElem hi] at hx'
        rcases List.mem_append.1 hx' with h | h
        · exact hin x h
        · rw [List.mem_singleton] at h; rw [h]; exact hx)
      rw [List.take_succ_eq_append_getElem hi] at this
      unfold atC at this ⊢
      rw [List.map_append, List.map_append] at this
      exact this
def pickB (c : List Int) (r : List (List Val)) (cols : List Int) : Option (List Int × List (List Val)) := bif mayB c r && mayB cols [] && cols.all (inC c) then some (cols, r.map (pickR c cols)) else none
theorem w_Pick (c : List Int) (r : List (List Val)) (cols : List Int) (hc : c.length ≤ 9223372036854775807) (hr : r.length ≤ 9223372036854775807) (hl : ∀ x ∈ r, x.length ≤ 9223372036854775807) (hn : cols.length ≤ 9223372036854775807) :
    wc W n_bag_Pick [bagp c r, intsp cols] = some (bagR (pickB c r cols)) := by
  have h := e_bag_Pick (c.map intp) (r.map rowp) (cols.map intp)
  rw [intsp_fold, tabp_fold, bagp_fold, intsp_fold] at h
  have e0 : PV.agg [intsp cols, PV.slice 0 []] = bagp cols [] := rfl
  rw [h]
  simp only [e0, w_bag_May c r hc hr hl, w_bag_May cols [] hn (by simp) (by simp), Option.bind_some, c_b_mk]
  unfold pickB
  cases h1 : mayB c r with
  | false => rfl
  | true =>
    cases h2 : mayB cols [] with
    | false => rfl
    | true =>
      obtain ⟨a1, a2, a3⟩ := mayB_row h1
      obtain ⟨b1, _, _⟩ := mayB_row h2
      simp only [Bool.not_true, cond_false, Bool.and_self, Bool.true_and, J_bag_Pick_1_eq, List.length_map]
      have := pick2 c cols r (fun x hx => (a3 x hx).1) (by omega) (by omega) (by omega) cols.length 0 (by omega) (by simp)
      rw [List.take_zero, List.drop_zero] at this
      refine this.trans ?_
      cases cols.all (inC c) <;> rfl
end Go.Cf

namespace Go.Cf
open Go Go.Ab
set_option linter.unusedVariables false
set_option linter.unusedSimpArgs false
theorem w_idxDef (l : List Def) (g : Nat) (fs cs : List PV) (f : Def → Bool) (hl : l.length ≤ 9223372036854775807) (hf : ∀ x ∈ l, wc W g (fs ++ [x.pv] ++ cs) = some (.bool (f x))) :
    wc W n_slices_IndexFunc_api_Def_api_Def [.slice 3 (l.map Def.pv), .fn g fs cs] = some (.int .i64 (idxI l f)) := by
  rw [e_slices_IndexFunc_api_Def_api_Def, List.length_map]
  refine loop_idx (fun i => L_slices_IndexFunc_api_Def_api_Def_1 (l.map Def.pv) (.fn g fs cs) l.length i) l f (fun n => some (.int .i64 n)) (fun i hi => ?_) ?_
  · rw [L_slices_IndexFunc_api_Def_api_Def_1_eq]
    simp only [lt_len hi, nat_le, cond_true, Int.toNat_natCast, List.getElem?_map, List.getElem?_eq_getElem hi, Option.map_some, Option.bind_some, Def.c_mk, asFn_mk, Def.fold]
    rw [hf _ (List.getElem_mem hi), wrap64 (by omega) (by omega)]
    simp only [Option.bind_some, c_b_mk]
  · rw [L_slices_IndexFunc_api_Def_api_Def_1_eq]; simp
theorem w_anyDef (l : List Def) (g : Nat) (fs cs : List PV) (f : Def → Bool) (hl : l.length ≤ 9223372036854775807) (hf : ∀ x ∈ l, wc W g (fs ++ [x.pv] ++ cs) = some (.bool (f x))) :
    wc W n_slices_ContainsFunc_api_Def_api_Def [.slice 3 (l.map Def.pv), .fn g fs cs] = some (.bool (l.any f)) := by
  rw [e_slices_ContainsFunc_api_Def_api_Def, w_idxDef l g fs cs f hl hf]
  simp [← idxI_any]
def catp (T : List Def) : PV := .agg [.slice 3 (T.map Def.pv)]
def datap (D : List (List (List Val))) : PV := .agg [.slice 0 (D.map tabp)]
@[simp] theorem catp_fold (T : List Def) : PV.agg [.slice 3 (T.map Def.pv)] = catp T := rfl
@[simp] theorem datap_fold (D : List (List (List Val))) : PV.agg [.slice 0 (D.map tabp)] = datap D := rfl
@[simp] theorem c_catp (T : List Def) {R : Type} (f : List PV → Option R) : c_g_s3 (catp T) f = f (T.map Def.pv) := rfl
@[simp] theorem c_datap (D : List (List (List Val))) {R : Type} (f : List PV → Option R) : c_g_s0 (datap D) f = f (D.map tabp) := rfl
theorem w_in (n a b : Int) : wc W n_data_in [.int .i64 n, .int .i64 a, .int .i64 b] = some (.bool (decide (a ≤ n) && decide (n ≤ b))) := by
  rw [e_data_in]
  have : decide (n ≥ a) = decide (a ≤ n) := rfl
  rw [this]
  cases decide (a ≤ n) <;> rfl
def oneD (d : Def) : Bool := (decide (1 ≤ d.Cols) && decide (d.Cols ≤ 4)) && (decide (1 ≤ d.Rows) && decide (d.Rows ≤ 1000000))
theorem w_one (d : Def) : wc W n_data_one [d.pv] = some (.bool (oneD d)) := by
  have h := e_data_one d.Cols d.Rows
  rw [Def.fold] at h
  rw [h]
  simp only [w_in, Option.bind_some, c_b_mk]
  unfold oneD
  by_cases h0 : d.Cols = 0
  · rw [h0]
    by_cases h1 : d.Rows = 0
    · rw [h1]; rfl
    · rw [beq_f h1]; rfl
  · rw [beq_f h0]
    simp only [cond_false, Option.bind_some, c_b_mk, Bool.not_false, cond_true]
    cases (decide (1 ≤ d.Cols) && decide (d.Cols ≤ 4)) <;> simp
def mayC (T : List Def) : Bool := (decide (1 ≤ (T.length : Int)) && decide ((T.length : Int) ≤ 4)) && T.all oneD
theorem w_DefMay1 (d : Def) : wc W n_data_May_1 [d.pv] = some (.bool (!oneD d)) := by
  have h := e_data_May_1 d.Cols d.Rows
  rw [Def.fold] at h
  rw [h, w_one]; rfl
theorem w_data_May (T : List Def) (hl : T.length ≤ 9223372036854775807) : wc W n_data_May [catp T] = some (.bool (mayC T)) := by
  have h := e_data_May (T.map Def.pv)
  rw [catp_fold] at h
  rw [h, w_in, List.length_map]
  simp only [Option.bind_some, c_b_mk]
  rw [w_anyDef T n_data_May_1 [] [] (fun d => !oneD d) hl (fun x _ => w_DefMay1 x)]
  simp only [Option.bind_some, c_b_mk, any_not]
  unfold mayC
  cases (decide (1 ≤ (T.length : Int)) && decide ((T.length : Int) ≤ 4)) <;> rfl
def rowOk (r : List Val) (n : Int) : Bool := decide ((r.length : Int) = n) && r.all mayV
theorem w_row1 (v : Val) : wc W n_data_row_1 [v.pv] = some (.bool (!mayV v)) := by
  have h := e_data_row_1 v.K v.N
  rw [Val.fold] at h
  rw [h, w_val_May]; rfl
theorem w_row (r : List Val) (n : Int) (hl : r.length ≤ 9223372036854775807) : wc W n_data_row [rowp r, .int .i64 n] = some (.bool (rowOk r n)) := by
  have h := e_data_row (r.map Val.pv) n
  rw [rowp_fold] at h
  rw [h, List.length_map, w_anyVal r n_data_row_1 [] [] (fun v => !mayV v) hl (fun x _ => w_row1 x)]
  simp only [Option.bind_some, c_b_mk, any_not]
  unfold rowOk
  by_cases e : (r.length : Int) = n
  · rw [beq_t e, decide_eq_true e]; simp
  · rw [beq_f e, decide_eq_false e]; simp
def colsAt (T : List Def) (i : Nat) : Int := (T[i]?.map Def.Cols).getD 0
def tabOk (T : List Def) (i : Nat) (t : List (List Val)) : Bool := decide (t.length ≤ 8) && t.all fun r => rowOk r (colsAt T i)
def fits (T : List Def) (D : List (List (List Val))) : Bool := mayC T && decide (D.length = T.length) && (List.range D.length).all fun i => (D[i]?).all (tabOk T i)
theorem w_Fits1 (T : List Def) (r : List Val) (i : Nat) (hi : i < T.length) (hl : r.length ≤ 9223372036854775807) :
    W n_data_Fits_1 false [.pv (rowp r), .pv (.imm 2 (catp T) 0), .own 0 0] [.var false 0 (.pv (.int .i64 (i : Int)))] = some (.pv (.bool (!rowOk r (colsAt T i))), [.var false 0 (.pv (.int .i64 (i : Int)))]) := by
  have h := o_data_Fits_1_o1_1 (r.map Val.pv) (T.map Def.pv) (i : Int)
  rw [rowp_fold, catp_fold] at h
  rw [h]
  simp only [nat_le, cond_true, Int.toNat_natCast, List.getElem?_map, List.getElem?_eq_getElem hi, Option.map_some, Option.bind_some, Def.load0, c_i64_mk, w_row _ _ hl, c_b_mk, colsAt, Option.getD_some]
theorem w_anyRow (T : List Def) (t : List (List Val)) (i : Nat) (hi : i < T.length) (ht : t.length ≤ 9223372036854775807) (hl : ∀ r ∈ t, r.length ≤ 9223372036854775807) :
    W n_slices_ContainsFunc_api_Val_api_Val_3020 false [.pv (tabp t), .fnv n_data_Fits_1 [] [.pv (.imm 2 (catp T) 0), .own 0 0]] [.var false 0 (.pv (.int .i64 (i : Int)))] =
      some (.pv (.bool (!t.all fun r => rowOk r (colsAt T i))), [.var false 0 (.pv (.int .i64 (i : Int)))]) := by
  have h := o_slices_ContainsFunc_api_Val_api_Val_3020_o1_1 (t.map rowp) (T.map Def.pv) (i : Int)
  have h2 := o_slices_IndexFunc_api_Val_api_Val_fa1b_o1_1 (t.map rowp) (T.map Def.pv) (i : Int)
  rw [tabp_fold, catp_fold] at h h2
  rw [h, h2, List.length_map]
  rw [loop_idx (fun n => L_slices_IndexFunc_api_Val_api_Val_fa1b_o1_1 (t.map rowp) (T.map Def.pv) t.length n (i : Int)) t (fun r => !rowOk r (colsAt T i)) (fun n => some (.pv (.int .i64 n), [.var false 0 (.pv (.int .i64 (i : Int)))])) ?_ ?_]
  · simp only [Option.bind_some, k_5b106d_mk, c_i64_mk, idxI_any]
    rw [← any_not t, Bool.not_not]
  · intro j hj
    rw [L_slices_IndexFunc_api_Val_api_Val_fa1b_o1_1_eq]
    simp only [lt_len hj, nat_le, cond_true, Int.toNat_natCast, List.getElem?_map, List.getElem?_eq_getElem hj, Option.map_some, Option.bind_some, c_rowp, rowp_fold, catp_fold, w_Fits1 T _ i hi (hl _ (List.getElem_mem hj)), k_5b106d_mk, c_b_mk]
    rw [wrap64 (by omega) (by omega)]
  · rw [L_slices_IndexFunc_api_Val_api_Val_fa1b_o1_1_eq]; simp
structure DOk (D : List (List (List Val))) : Prop where
  len : D.length ≤ 9223372036854775807
  tab : ∀ t ∈ D, t.length ≤ 9223372036854775807
  row : ∀ t ∈ D, ∀ r ∈ t, r.length ≤ 9223372036854775807
theorem w_Fits (T : List Def) (D : List (List (List Val))) (hT : T.length ≤ 9223372036854775807) (hD : DOk D) : wc W n_data_Fits [catp T, datap D] = some (.bool (fits T D)) := by
  have h := e_data_Fits (T.map Def.pv) (D.map tabp)
  rw [catp_fold, datap_fold] at h
  rw [h, w_data_May T hT]
  simp only [Option.bind_some, c_b_mk, List.length_map]
  unfold fits
  cases mayC T with
  | false => rfl
  | true =>
    simp only [Bool.not_true, cond_false, Bool.true_and]
    by_cases hl : D.length = T.length
    · rw [bne_f (by rw [hl]), decide_eq_true hl, cond_false, J_data_Fits_1_eq, Bool.true_and, List.length_map]
      rw [loop_all (fun i => L_data_Fits_2 (T.map Def.pv) (D.map tabp) D.length i) D.length (fun i => (D[i]?).all (tabOk T i)) (some (.bool false)) (some (.bool true)) ?_ ?_]
      · cases (List.range D.length).all fun i => (D[i]?).all (tabOk T i) <;> rfl
      · intro i hi
        have hiT : i < T.length := by omega
        have hm := List.getElem_mem hi
        have := hD.len
        rw [L_data_Fits_2_eq]
        simp only [lt_len hi, nat_le, cond_true, Int.toNat_natCast, List.getElem?_map, List.getElem?_eq_getElem hi, Option.map_some, Option.bind_some, c_tabp, List.length_map, Option.all_some, tabp_fold, catp_fold, w_anyRow T D[i] i hiT (hD.tab _ hm) (hD.row _ hm), k_5b106d_mk, c_b_mk]
        rw [wrap64 (by omega) (by omega)]
        unfold tabOk
        by_cases h8 : D[i].length ≤ 8
        · rw [decide_eq_true h8, decide_eq_false (show ¬ ((D[i].length : Nat) : Int) > 8 by omega)]
          cases D[i].all fun r => rowOk r (colsAt T i) <;> rfl
        · rw [decide_eq_false h8, decide_eq_true (show ((D[i].length : Nat) : Int) > 8 by omega)]
          rfl
      · rw [L_data_Fits_2_eq]; simp
    · rw [bne_t (by omega), decide_eq_false hl]; rfl
def colI (occ col : Int) : Int := bif (decide (0 ≤ occ) && decide (occ ≤ 3)) && (decide (0 ≤ col) && decide (col ≤ 3)) then 4 * occ + col else -1
theorem w_Col (o c : Int) : wc W n_data_Col [.int .i64 o, .int .i64 c] = some (.int .i64 (colI o c)) := by
  rw [e_data_Col]
  simp only [w_in, Option.bind_some, c_b_mk, colI]
  by_cases h : 0 ≤ o ∧ o ≤ 3
  · rw [decide_eq_true h.1, decide_eq_true h.2]
    by_cases h2 : 0 ≤ c ∧ c ≤ 3
    · rw [decide_eq_true h2.1, decide_eq_true h2.2]
      simp only [Bool.and_self, Bool.not_true, cond_false, cond_true, J_data_Col_1_eq]
      rw [wrap64 (n := 4 * o) (by omega) (by omega), wrap64 (by omega) (by omega)]
    · have : (decide (0 ≤ c) && decide (c ≤ 3)) = false := by rw [← Bool.decide_and]; exact decide_eq_false h2
      rw [this]; rfl
  · have : (decide (0 ≤ o) && decide (o ≤ 3)) = false := by rw [← Bool.decide_and]; exact decide_eq_false h
    rw [this]; rfl
def splitP (id : Int) : PV := bif decide (0 ≤ id) && decide (id ≤ 15) then .tup [.int .i64 (id / 4), .int .i64 (id % 4), .bool true] else .tup [.int .i64 0, .int .i64 0, .bool false]
theorem div4 {n : Int} (h : 0 ≤ n) (h2 : n ≤ 15) : IntKind.wrap .i64 (Int.tdiv n 4) = n / 4 ∧ Int.tmod n 4 = n % 4 := by
  rw [Int.tdiv_eq_ediv_of_nonneg h, Int.tmod_eq_emod_of_nonneg h, wrap64 (by omega) (by omega)]
  exact ⟨rfl, rfl⟩
theorem w_Split (n : Int) : wc W n_data_Split [.int .i64 n] = some (splitP n) := by
  rw [e_data_Split, w_in]
  simp only [Option.bind_some, c_b_mk, splitP]
  by_cases h : 0 ≤ n ∧ n ≤ 15
  · rw [decide_eq_true h.1, decide_eq_true h.2, (div4 h.1 h.2).1, (div4 h.1 h.2).2]; rfl
  · have : (decide (0 ≤ n) && decide (n ≤ 15)) = false := by rw [← Bool.decide_and]; exact decide_eq_false h
    rw [this]; rfl
def colsOf (occ : Int) (k n : Nat) : List Int := (List.range' k n).map fun i : Nat => 4 * occ + (i : Int)
theorem of_loop (o : Int) (ho : 0 ≤ o ∧ o ≤ 3) (t : Int) (D : List PV) (n : Nat) (hn : n ≤ 4) : ∀ (k i : Nat) (acc : List Int), i + k = n → acc.length ≤ i →
    L_data_Of_2 t o D (n : Int) (i : Int) (acc.map intp) = L_data_Of_2 t o D (n : Int) (n : Int) ((acc ++ colsOf o i k).map intp)
  | 0, i, acc, h, hl => by
    rw [show i = n by omega]; simp [colsOf]
  | k + 1, i, acc, h, hl => by
    have hi : i < n := by omega
    rw [L_data_Of_2_eq]
    have hc : colI o (i : Int) = 4 * o + (i : Int) := by
      unfold colI
      rw [decide_eq_true ho.1, decide_eq_true ho.2, decide_eq_true (show (0 : Int) ≤ i by omega), decide_eq_true (show (i : Int) ≤ 3 by omega)]; rfl
    simp only [lt_len hi, cond_true, w_Col, Option.bind_some, c_i64_mk, hc, List.length_map, Bool.true_and, decide_eq_true (show acc.length + 1 ≤ 4294967296 by omega)]
    rw [wrap_succ (by omega)]
    have := of_loop o ho t D n hn k (i + 1) (acc ++ [4 * o + (i : Int)]) (by omega) (by simp; omega)
    simp only [List.map_append, List.map_cons, List.map_nil] at this
    refine this.trans ?_
    rw [show colsOf o i (k + 1) = (4 * o + (i : Int)) :: colsOf o (i + 1) k from by simp [colsOf, List.range'_succ]]
    simp only [List.map_append, List.map_cons, List.append_assoc, List.cons_append, List.nil_append]
def ofT (T : List Def) (D : List (List (List Val))) (t o : Int) : Option (List Int × List (List Val)) :=
  bif fits T D && (decide (0 ≤ t) && decide (t ≤ (T.length : Int) - 1)) && (decide (0 ≤ o) && decide (o ≤ 3)) then some (colsOf o 0 (colsAt T t.toNat).toNat, D.getD t.toNat []) else none
def ofP (x : Option (List Int × List (List Val))) : PV := match x with | some b => .tup [bagp b.1 b.2, .bool true] | none => .tup [bagp [] [], .bool false]
theorem fits_tab {T : List Def} {D : List (List (List Val))} (h : fits T D = true) : D.length = T.length ∧ mayC T = true ∧ ∀ i (hi : i < D.length), tabOk T i D[i] = true := by
  unfold fits at h
  simp only [Bool.and_eq_true, decide_eq_true_eq, List.all_eq_true, List.mem_range] at h
  refine ⟨h.1.2, h.1.1, fun i hi => ?_⟩
  have := h.2 i hi
  simpa [List.getElem?_eq_getElem hi] using this
theorem mayC_cols {T : List Def} (h : mayC T = true) {i : Nat} (hi : i < T.length) : 1 ≤ colsAt T i ∧ colsAt T i ≤ 4 := by
  unfold mayC at h
  simp only [Bool.and_eq_true, List.all_eq_true] at h
  have := h.2 _ (List.getElem_mem hi)
  unfold oneD at this
  simp only [Bool.and_eq_true, decide_eq_true_eq] at this
  unfold colsAt
  rw [List.getElem?_eq_getElem hi]
  exact this.1
theorem tab_rows {T : List Def} {i : Nat} {t : List (List Val)} (h : tabOk T i t = true) (hc : colsAt T i ≤ 4) : t.length ≤ 8 ∧ ∀ r ∈ t, (r.length : Int) = colsAt T i ∧ r.length ≤ 4 ∧ r.all mayV = true := by
  unfold tabOk at h
  simp only [Bool.and_eq_true, decide_eq_true_eq, List.all_eq_true] at h
  refine ⟨h.1, fun r hr => ?_⟩
  have := h.2 r hr
  unfold rowOk at this
  simp only [Bool.and_eq_true, decide_eq_true_eq] at this
  exact ⟨this.1, by omega, this.2⟩
end Go.Cf

namespace Go.Cf
open Go Go.Ab
set_option linter.unusedVariables false
set_option linter.unusedSimpArgs false
theorem w_idxInt (l : List Int) (g : Nat) (fs cs : List PV) (f : Int → Bool) (hl : l.length ≤ 9223372036854775807) (hf : ∀ x ∈ l, wc W g (fs ++ [.int .i64 x] ++ cs) = some (.bool (f x))) :
    wc W n_slices_IndexFunc_int_int [intsp l, .fn g fs cs] = some (.int .i64 (idxI l f)) := by
  unfold intsp
  rw [e_slices_IndexFunc_int_int, List.length_map]
  refine loop_idx (fun i => L_slices_IndexFunc_int_int_1 (l.map intp) (.fn g fs cs) l.length i) l f (fun n => some (.int .i64 n)) (fun i hi => ?_) ?_
  · rw [L_slices_IndexFunc_int_int_1_eq]
    simp only [lt_len hi, nat_le, cond_true, Int.toNat_natCast, List.getElem?_map, List.getElem?_eq_getElem hi, Option.map_some, Option.bind_some, c_intp, asFn_mk]
    rw [hf _ (List.getElem_mem hi), wrap64 (by omega) (by omega)]
    simp only [Option.bind_some, c_b_mk]
  · rw [L_slices_IndexFunc_int_int_1_eq]; simp
theorem w_anyInt (l : List Int) (g : Nat) (fs cs : List PV) (f : Int → Bool) (hl : l.length ≤ 9223372036854775807) (hf : ∀ x ∈ l, wc W g (fs ++ [.int .i64 x] ++ cs) = some (.bool (f x))) :
    wc W n_slices_ContainsFunc_int_int [intsp l, .fn g fs cs] = some (.bool (l.any f)) := by
  have h := e_slices_ContainsFunc_int_int (l.map intp) (.fn g fs cs)
  rw [intsp_fold] at h
  rw [h, w_idxInt l g fs cs f hl hf]
  simp [← idxI_any]
theorem w_Contains (l : List Int) (n : Int) (hl : l.length ≤ 9223372036854775807) : wc W n_slices_Contains_int_int [intsp l, .int .i64 n] = some (.bool (inC l n)) := by
  have h := e_slices_Contains_int_int (l.map intp) n
  rw [intsp_fold, w_Index l n hl] at h
  rw [h]
  have h1 : decide (idxI l (fun y => n == y) ≥ 0) = inC l n := by
    have := idxI_lt (c := l) (x := n)
    by_cases hh : idxI l (fun y => n == y) < 0
    · rw [decide_eq_true hh] at this
      rw [decide_eq_false (by omega)]
      cases h2 : inC l n with
      | false => rfl
      | true => rw [h2] at this; cases this
    · rw [decide_eq_false hh] at this
      rw [decide_eq_true (by omega)]
      cases h2 : inC l n with
      | true => rfl
      | false => rw [h2] at this; cases this
  simp only [Option.bind_some, c_i64_mk, h1]
def withinB (l a : List Int) : Bool := l.all (inC a)
theorem w_within (l a : List Int) (hl : l.length ≤ 9223372036854775807) (ha : a.length ≤ 9223372036854775807) : wc W n_query_within [intsp l, intsp a] = some (.bool (withinB l a)) := by
  have h := e_query_within (l.map intp) (a.map intp)
  rw [intsp_fold, intsp_fold] at h
  rw [h, w_anyInt l n_query_within_1 [] [.imm 0 (intsp a) 0] (fun n => !inC a n) hl (fun x _ => by
    have h1 := e_query_within_1 x (a.map intp)
    rw [intsp_fold] at h1
    refine h1.trans ?_
    rw [w_Contains a x ha]; rfl)]
  simp only [Option.bind_some, c_b_mk, any_not]
  rfl
def onceB (l : List Int) : Bool := decide ((Lib.compact (sortI l)).length = l.length)
theorem beq_nat (a b : Nat) : (((a : Nat) : Int) == ((b : Nat) : Int)) = decide (a = b) := by
  by_cases h : a = b
  · rw [decide_eq_true h, beq_t (by rw [h])]
  · rw [decide_eq_false h, beq_f (by omega)]
theorem w_once (l : List Int) (hl : l.length ≤ 4294967296) : wc W n_query_once [intsp l] = some (.bool (onceB l)) := by
  have h := e_query_once (l.map intp)
  have h1 := x_slices_Clone_int_int_raw (l.map intp) (by simpa using hl)
  have h2 := x_slices_Sort_int_int false 0 l hl
  have h3 := x_slices_Compact_int_int 0 (sortI l) (by rw [sortI_len]; exact hl)
  have e1 : ∀ l : List Int, l.map intp = l.map (PV.int .i64) := fun _ => rfl
  refine h.trans ?_
  rw [h1]
  simp only [Option.bind_some, k_d697de_mk]
  rw [e1, h2]
  simp only [Option.bind_some, k_cad770_mk, h3, k_b7636c_mk, c_s0_mk, List.length_map, beq_nat]
  rfl
def tabAt (T : List Def) (occ : List Int) (o : Nat) : Bool := decide (0 ≤ occ.getD o 0) && decide (occ.getD o 0 < (T.length : Int))
def colsQ (T : List Def) (occ : List Int) (o : Nat) : List Int := colsOf (o : Int) 0 (colsAt T (occ.getD o 0).toNat).toNat
def allL (T : List Def) (occ : List Int) (is : Nat → Bool) (i k : Nat) : List Int := (List.range' i k).flatMap fun o => bif is o && tabAt T occ o then colsQ T occ o else []
theorem colsOf_len (o : Int) (k n : Nat) : (colsOf o k n).length = n := by simp [colsOf]
theorem all3 (T : List Def) (g : PV) (A B C D : List PV) (i37 i40 i42 : Int) (o : Nat) (ho : o ≤ 3) (n : Nat) (hn : n ≤ 4) : ∀ (k j : Nat) (acc : List Int), j + k = n → acc.length ≤ 1000 + j →
    L_query_all_3 g (T.map Def.pv) A B i37 C D i40 (o : Int) i42 (o : Int) (n : Int) (j : Int) (acc.map intp) = L_query_all_1 g (T.map Def.pv) A B i37 C D i40 i42 ((o + 1 : Nat) : Int) ((acc ++ colsOf (o : Int) j k).map intp)
  | 0, j, acc, h, hl => by
    rw [L_query_all_3_eq, show j = n by omega]
    simp only [ge_len, cond_false, colsOf, List.range'_zero, List.map_nil, List.append_nil]
    rw [wrap_succ (by omega)]
  | k + 1, j, acc, h, hl => by
    have hj : j < n := by omega
    rw [L_query_all_3_eq]
    have hc : colI (o : Int) (j : Int) = 4 * (o : Int) + (j : Int) := by
      unfold colI
      rw [decide_eq_true (show (0 : Int) ≤ o by omega), decide_eq_true (show (o : Int) ≤ 3 by omega), decide_eq_true (show (0 : Int) ≤ j by omega), decide_eq_true (show (j : Int) ≤ 3 by omega)]; rfl
    simp only [lt_len hj, cond_true, w_Col, Option.bind_some, c_i64_mk, hc, List.length_map, Bool.true_and, decide_eq_true (show acc.length + 1 ≤ 4294967296 by omega)]
    rw [wrap_succ (by omega)]
    have := all3 T g A B C D i37 i40 i42 o ho n hn k (j + 1) (acc ++ [4 * (o : Int) + (j : Int)]) (by omega) (by simp; omega)
    simp only [List.map_append, List.map_cons, List.map_nil] at this
    refine this.trans ?_
    rw [show colsOf (o : Int) j (k + 1) = (4 * (o : Int) + (j : Int)) :: colsOf (o : Int) (j + 1) k from by simp [colsOf, List.range'_succ]]
    simp only [List.map_append, List.map_cons, List.append_assoc, List.cons_append, List.nil_append]
theorem all1 (T : List Def) (hT : mayC T = true) (occ : List Int) (g : Nat) (fs cs : List PV) (is : Nat → Bool) (P C D : List PV) (i5 i8 : Int) (n : Nat) (hn : n ≤ 4) (hno : n ≤ occ.length) (his : ∀ o, o < n → wc W g (fs ++ [.int .i64 (o : Int)] ++ cs) = some (.bool (is o))) :
    ∀ (k i : Nat) (acc : List Int), i + k = n → acc.length ≤ 4 * i →
    L_query_all_1 (.fn g fs cs) (T.map Def.pv) (occ.map intp) P i5 C D i8 (n : Int) (i : Int) (acc.map intp) = some (intsp (acc ++ allL T occ is i k))
  | 0, i, acc, h, hl => by
    rw [L_query_all_1_eq, show i = n by omega]
    simp only [ge_len, cond_false, allL, List.range'_zero, List.flatMap_nil, List.append_nil]
    rfl
  | k + 1, i, acc, h, hl => by
    have hi : i < n := by omega
    have hio : i < occ.length := by omega
    have ho : occ.getD i 0 = occ[i] := by rw [List.getD_eq_getElem?_getD, List.getElem?_eq_getElem hio]; rfl
    have hstep : allL T occ is i (k + 1) = (bif is i && tabAt T occ i then colsQ T occ i else []) ++ allL T occ is (i + 1) k := by
      unfold allL
      rw [List.range'_succ, List.flatMap_cons]
    rw [L_query_all_1_eq, hstep]
    simp only [lt_len hi, nat_le, cond_true, Int.toNat_natCast, List.getElem?_map, List.getElem?_eq_getElem hio, Option.map_some, Option.bind_some, c_intp, asFn_mk, his i hi, c_b_mk]
    have skip := all1 T hT occ g fs cs is P C D i5 i8 n hn hno his k (i + 1) acc (by omega) (by omega)
    cases hb : is i with
    | false =>
      simp only [Bool.not_false, cond_true, Bool.false_and, cond_false, List.nil_append]
      rw [wrap_succ (by omega)]; exact skip
    | true =>
      simp only [Bool.not_true, cond_false, Bool.true_and]
      unfold tabAt
      rw [ho]
      by_cases h0 : occ[i] < 0
      · rw [decide_eq_true h0, decide_eq_false (show ¬ 0 ≤ occ[i] by omega)]
        simp only [cond_true, Bool.false_and, cond_false, List.nil_append]
        rw [wrap_succ (by omega)]; exact skip
      rw [decide_eq_false h0, decide_eq_true (show 0 ≤ occ[i] by omega)]
      simp only [cond_false, Bool.true_and, List.length_map]
      by_cases h1 : occ[i] < (T.length : Int)
      · rw [decide_eq_false (show ¬ occ[i] ≥ (T.length : Int) by omega), decide_eq_true h1, cond_false, cond_true, J_query_all_2_eq]
        obtain ⟨m, hm⟩ := Int.eq_ofNat_of_zero_le (show 0 ≤ occ[i] by omega)
        have hmT : m < T.length := by omega
        have hcols := mayC_cols hT hmT
        obtain ⟨c, hc⟩ := Int.eq_ofNat_of_zero_le (show 0 ≤ colsAt T m by omega)
        have hcA : T[m].Cols = (c : Int) := by
          have := hc; unfold colsAt at this; rw [List.getElem?_eq_getElem hmT] at this; exact this
        rw [hm]
        simp only [nat_le, cond_true, Int.toNat_natCast, List.getElem?_map, List.getElem?_eq_getElem hmT, Option.map_some, Option.bind_some, Def.load0, c_i64_mk, hcA]
        have h3 := all3 T (.fn g fs cs) (occ.map intp) P C D i5 i8 (n : Int) i (by omega) c (by omega) c 0 acc (by omega) (by omega)
        refine h3.trans ?_
        have hq : colsQ T occ i = colsOf (i : Int) 0 c := by unfold colsQ; rw [ho, hm, Int.toNat_natCast, hc, Int.toNat_natCast]
        rw [hq, ← List.append_assoc]
        exact all1 T hT occ g fs cs is P C D i5 i8 n hn hno his k (i + 1) (acc ++ colsOf (i : Int) 0 c) (by omega) (by rw [List.length_append, colsOf_len]; omega)
      · rw [decide_eq_true (show occ[i] ≥ (T.length : Int) by omega), decide_eq_false h1]
        simp only [cond_true, cond_false, List.nil_append]
        rw [wrap_succ (by omega)]; exact skip
end Go.Cf

namespace Go.Cf
open Go Go.Ab
set_option linter.unusedVariables false
set_option linter.unusedSimpArgs false
def queryp (occ : List Int) (p : List PV) (by_ : Int) (sums out : List Int) (ord : Int) : PV := .agg [intsp occ, .slice 6 p, .int .i64 by_, intsp sums, intsp out, .int .i64 ord]
@[simp] theorem query_fold (occ : List Int) (p : List PV) (by_ : Int) (sums out : List Int) (ord : Int) : PV.agg [intsp occ, .slice 6 p, .int .i64 by_, intsp sums, intsp out, .int .i64 ord] = queryp occ p by_ sums out ord := rfl
def colsAll (T : List Def) (occ : List Int) : List Int := allL T occ (fun _ => true) 0 (min occ.length 4)
theorem allL_len (T : List Def) (hT : mayC T = true) (occ : List Int) (is : Nat → Bool) : ∀ (k i : Nat), (allL T occ is i k).length ≤ 4 * k
  | 0, i => by simp [allL]
  | k + 1, i => by
    have ih := allL_len T hT occ is k (i + 1)
    unfold allL at ih ⊢
    rw [List.range'_succ, List.flatMap_cons, List.length_append]
    have : (bif is i && tabAt T occ i then colsQ T occ i else []).length ≤ 4 := by
      cases hc : is i && tabAt T occ i with
      | false => simp
      | true =>
        simp only [Bool.and_eq_true] at hc
        have h2 := hc.2
        unfold tabAt at h2
        simp only [Bool.and_eq_true, decide_eq_true_eq] at h2
        have := mayC_cols hT (i := (occ.getD i 0).toNat) (by omega)
        simp only [cond_true, colsQ, colsOf_len]
        omega
    omega
theorem w_all (T : List Def) (hT : mayC T = true) (occ : List Int) (p : List PV) (by_ : Int) (sums out : List Int) (ord : Int) (g : Nat) (fs cs : List PV) (is : Nat → Bool) (his : ∀ o, o < min occ.length 4 → wc W g (fs ++ [.int .i64 (o : Int)] ++ cs) = some (.bool (is o))) :
    wc W n_query_all [catp T, queryp occ p by_ sums out ord, .fn g fs cs] = some (intsp (allL T occ is 0 (min occ.length 4))) := by
  have h := e_query_all (T.map Def.pv) (occ.map intp) p by_ (sums.map intp) (out.map intp) ord (.fn g fs cs)
  rw [catp_fold, intsp_fold, intsp_fold, intsp_fold, query_fold] at h
  refine h.trans ?_
  have e : (bif (decide ((4 : Int) < (((occ.map intp).length : Nat) : Int))) then (4 : Int) else (((occ.map intp).length : Nat) : Int)) = ((min occ.length 4 : Nat) : Int) := by
    rw [List.length_map]
    by_cases h4 : 4 < occ.length
    · rw [decide_eq_true (by omega), cond_true, Nat.min_eq_right (by omega)]; rfl
    · rw [decide_eq_false (by omega), cond_false, Nat.min_eq_left (by omega)]
  rw [e]
  have := all1 T hT occ g fs cs is p (sums.map intp) (out.map intp) by_ ord (min occ.length 4) (by omega) (by omega) his (min occ.length 4) 0 [] (by omega) (by simp)
  simpa using this
def predQ (cols : List Int) (e : Ex) : Bool := !(colsT e).isEmpty && withinB (colsT e) cols
def tailQ (by_ : Int) (sums out : List Int) (ord : Int) (cols : List Int) : Bool :=
  bif by_ == -1 then decide (1 ≤ out.length) && decide (out.length ≤ 8) && onceB out && withinB out cols && decide (sums.length = 0) && (ord == -1 || inC out ord)
  else withinB [by_] cols && decide (sums.length ≤ 4) && withinB sums cols && decide (out.length = 0) && (ord == -1 || ord == by_)
def mayQ (T : List Def) (occ : List Int) (P : List Ex) (by_ : Int) (sums out : List Int) (ord : Int) : Bool :=
  mayC T && decide (1 ≤ occ.length) && decide (occ.length ≤ 4) && (occ.all fun t => decide (0 ≤ t) && decide (t < (T.length : Int))) && decide (P.length ≤ 6) && P.all (predQ (colsAll T occ)) && tailQ by_ sums out ord (colsAll T occ)
theorem colsT_len (e : Ex) : (colsT e).length ≤ 30 := by
  unfold colsT
  cases h : mayT e with
  | false => simp
  | true =>
    have h1 := mayT_sz h
    have h2 := (cols_sz e.sz).1 e (Nat.le_refl _)
    have h3 : (Lib.compact (sortI (colsE e))).length ≤ (sortI (colsE e)).length := by
      unfold Lib.compact Lib.compactUpTo
      rw [List.length_map]
      exact Nat.le_trans (List.length_filter_le _ _) (by simp)
    rw [sortI_len] at h3
    simp only [cond_true]; omega
theorem w_tail (occ : List PV) (P : List PV) (by_ : Int) (sums out : List Int) (ord : Int) (cols : List Int) (l : List PV) (hs : sums.length ≤ 4294967296) (ho : out.length ≤ 4294967296) (hc : cols.length ≤ 1000) :
    L_query_May_2 occ P by_ (sums.map intp) (out.map intp) ord (cols.map intp) l (l.length : Int) (l.length : Int) = some (.bool (tailQ by_ sums out ord cols)) := by
  rw [L_query_May_2_eq]
  simp only [ge_len, cond_false, List.length_map]
  unfold tailQ
  by_cases hb : by_ = -1
  · rw [beq_t hb, cond_true, cond_true]
    have j3 : ∀ b, J_query_May_3 occ P by_ (sums.map intp) (out.map intp) ord b = some (.bool (b && decide (sums.length = 0) && (ord == -1 || inC out ord))) := fun b => by
      rw [J_query_May_3_eq]
      cases b with
      | false => rfl
      | true =>
        simp only [cond_true, List.length_map, Bool.true_and, intsp_fold, w_Contains out ord (by omega), Option.bind_some, c_b_mk]
        by_cases hs0 : sums.length = 0
        · rw [beq_t (show ((sums.length : Nat) : Int) = 0 by omega), decide_eq_true hs0]
          simp only [cond_true, Bool.true_and]
          cases ord == -1 <;> rfl
        · rw [beq_f (show ((sums.length : Nat) : Int) ≠ 0 by omega), decide_eq_false hs0]; rfl
    simp only [j3, intsp_fold, w_once out ho, w_within out cols (by omega) (by omega), Option.bind_some, c_b_mk]
    rw [show decide (((out.length : Nat) : Int) ≥ 1) = decide (1 ≤ out.length) from decide_eq_decide.2 (by omega), show decide (((out.length : Nat) : Int) ≤ 8) = decide (out.length ≤ 8) from decide_eq_decide.2 (by omega)]
    cases decide (1 ≤ out.length) <;> cases decide (out.length ≤ 8) <;> cases onceB out <;> simp
  · rw [beq_f hb, cond_false, cond_false]
    have e1 : PV.slice 0 [PV.int .i64 by_] = intsp [by_] := rfl
    simp only [e1, intsp_fold, w_within [by_] cols (by simp) (by omega), w_within sums cols (by omega) (by omega), Option.bind_some, c_b_mk]
    rw [show decide (((sums.length : Nat) : Int) ≤ 4) = decide (sums.length ≤ 4) from decide_eq_decide.2 (by omega), show (((out.length : Nat) : Int) == 0) = decide (out.length = 0) from by
      by_cases h : out.length = 0
      · rw [beq_t (by omega), decide_eq_true h]
      · rw [beq_f (by omega), decide_eq_false h]]
    cases withinB [by_] cols <;> cases decide (sums.length ≤ 4) <;> cases withinB sums cols <;> cases decide (out.length = 0) <;> cases ord == -1 <;> simp
theorem w_query_May (T : List Def) (occ : List Int) (P : List Ex) (by_ : Int) (sums out : List Int) (ord : Int) (hT : T.length ≤ 9223372036854775807) (hocc : occ.length ≤ 9223372036854775807) (hP : P.length ≤ 9223372036854775807) (hok : ∀ e ∈ P, e.ok)
    (hs : sums.length ≤ 4294967296) (ho : out.length ≤ 4294967296) : wc W n_query_May [catp T, queryp occ (P.map Ex.pv) by_ sums out ord] = some (.bool (mayQ T occ P by_ sums out ord)) := by
  have h := e_query_May (T.map Def.pv) (occ.map intp) (P.map Ex.pv) by_ (sums.map intp) (out.map intp) ord
  rw [catp_fold, intsp_fold, intsp_fold, intsp_fold, query_fold] at h
  refine h.trans ?_
  rw [w_data_May T hT]
  simp only [Option.bind_some, c_b_mk, List.length_map]
  unfold mayQ
  cases h1 : mayC T with
  | false => rfl
  | true =>
  simp only [Bool.not_true, cond_false, Bool.true_and]
  by_cases h2 : occ.length < 1
  · rw [decide_eq_true (show ((occ.length : Nat) : Int) < 1 by omega), decide_eq_false (show ¬ 1 ≤ occ.length by omega)]; simp
  rw [decide_eq_false (show ¬ ((occ.length : Nat) : Int) < 1 by omega), decide_eq_true (show 1 ≤ occ.length by omega)]
  by_cases h3 : 4 < occ.length
  · rw [decide_eq_true (show ((occ.length : Nat) : Int) > 4 by omega), decide_eq_false (show ¬ occ.length ≤ 4 by omega)]; simp
  rw [decide_eq_false (show ¬ ((occ.length : Nat) : Int) > 4 by omega), decide_eq_true (show occ.length ≤ 4 by omega)]
  simp only [cond_false, Bool.true_and]
  rw [w_anyInt occ n_query_May_1 [] [.imm 2 (catp T) 0] (fun t => !(decide (0 ≤ t) && decide (t < (T.length : Int)))) (by omega) (fun t _ => by
    have h4 := e_query_May_1 t (T.map Def.pv)
    rw [catp_fold] at h4
    refine h4.trans ?_
    rw [List.length_map]
    by_cases a : t < 0
    · rw [decide_eq_true a, decide_eq_false (show ¬ 0 ≤ t by omega)]; rfl
    · rw [decide_eq_false a, decide_eq_true (show 0 ≤ t by omega)]
      by_cases b : t < (T.length : Int)
      · rw [decide_eq_true b, decide_eq_false (show ¬ t ≥ (T.length : Int) by omega)]; rfl
      · rw [decide_eq_false b, decide_eq_true (show t ≥ (T.length : Int) by omega)]; rfl)]
  simp only [Option.bind_some, c_b_mk]
  rw [← any_not (f := fun t : Int => decide (0 ≤ t) && decide (t < (T.length : Int)))]
  cases h5 : occ.any fun t => !(decide (0 ≤ t) && decide (t < (T.length : Int))) with
  | true => simp
  | false =>
  simp only [cond_false, Bool.not_false, Bool.true_and]
  by_cases h6 : 6 < P.length
  · rw [decide_eq_true (show ((P.length : Nat) : Int) > 6 by omega), decide_eq_false (show ¬ P.length ≤ 6 by omega)]; simp
  rw [decide_eq_false (show ¬ ((P.length : Nat) : Int) > 6 by omega), decide_eq_true (show P.length ≤ 6 by omega)]
  simp only [cond_false, Bool.true_and, J_query_May_1_eq, catp_fold, intsp_fold, query_fold]
  have hall := w_all T h1 occ (P.map Ex.pv) by_ sums out ord n_query_May_2 [] [] (fun _ => true) (fun o _ => e_query_May_2 (o : Int))
  rw [hall]
  have hcl := allL_len T h1 occ (fun _ => true) (min occ.length 4) 0
  have ecols : allL T occ (fun _ => true) 0 (min occ.length 4) = colsAll T occ := rfl
  rw [ecols] at hcl ⊢
  generalize colsAll T occ = cols at hcl ⊢
  simp only [Option.bind_some, c_intsp, List.length_map]
  have hloop := loop_all (fun i => L_query_May_2 (occ.map intp) (P.map Ex.pv) by_ (sums.map intp) (out.map intp) ord (cols.map intp) (P.map Ex.pv) (P.length : Int) i) P.length (fun i => (P[i]?).all (predQ cols)) (some (.bool false)) (some (.bool (tailQ by_ sums out ord cols))) (fun i hi => ?_) ?_
  · refine hloop.trans ?_
    rw [all_get P (predQ cols)]
    cases P.all (predQ cols) <;> rfl
  · have hm := List.getElem_mem hi
    conv => lhs; rw [L_query_May_2_eq]
    simp only [lt_len hi, nat_le, cond_true, Int.toNat_natCast, List.getElem?_map, List.getElem?_eq_getElem hi, Option.map_some, Option.bind_some, Ex.c_mk, Ex.fold, w_Cols P[i] (hok _ hm), c_intsp, List.length_map, Option.all_some]
    have hcl2 : (colsT P[i]).length ≤ 9223372036854775807 := by
      have := colsT_len P[i]; omega
    simp only [intsp_fold, w_within (colsT P[i]) cols hcl2 (by omega), Option.bind_some, c_b_mk]
    rw [wrap64 (by omega) (by omega)]
    unfold predQ
    cases hc : colsT P[i] with
    | nil => rfl
    | cons a r =>
      rw [beq_f (show (((a :: r).length : Nat) : Int) ≠ 0 by simp; omega)]
      simp only [cond_false, List.isEmpty_cons, Bool.not_false, Bool.true_and]
      cases withinB (a :: r) cols <;> rfl
  · have := w_tail (occ.map intp) (P.map Ex.pv) by_ sums out ord cols (P.map Ex.pv) hs ho (by omega)
    simpa using this
end Go.Cf

namespace Go.Cf
open Go Go.Ab
set_option linter.unusedVariables false
set_option linter.unusedSimpArgs false
def occI (c : Int) : Nat := bif decide (0 ≤ c) && decide (c ≤ 15) then (c / 4).toNat else 0
def setC : Nat → List Int → Nat
  | s, [] => s
  | s, c :: r => setC (s ||| 2 ^ occI c) r
theorem occI_lt (c : Int) : occI c < 4 := by
  unfold occI
  cases h : decide (0 ≤ c) && decide (c ≤ 15) with
  | false => simp
  | true =>
    simp only [Bool.and_eq_true, decide_eq_true_eq] at h
    simp only [cond_true]
    omega
theorem pow4' : ∀ o : Nat, o < 4 → 2 ^ o < 16 := by decide
theorem or16' : ∀ x : Nat, x < 16 → ∀ y : Nat, y < 16 → x ||| y < 16 := by decide +kernel
theorem bitsOr : ∀ x : Nat, x < 16 → ∀ y : Nat, y < 16 → IntKind.wrap .i64 (((BitVec.toNat (HOr.hOr (BitVec.ofInt 64 (x : Int)) (BitVec.ofInt 64 (y : Int)))) : Nat) : Int) = ((x ||| y : Nat) : Int) := by decide +kernel
theorem bitsAnd : ∀ x : Nat, x < 16 → ∀ y : Nat, y < 16 → IntKind.wrap .i64 (((BitVec.toNat (HAnd.hAnd (BitVec.ofInt 64 (x : Int)) (BitVec.ofInt 64 (y : Int)))) : Nat) : Int) = ((x &&& y : Nat) : Int) := by decide +kernel
theorem shl4 : ∀ o : Nat, o < 4 → IntKind.wrap .i64 ((1 : Int) * (HPow.hPow (2 : Int) (Min.min (Int.toNat (o : Int)) 64)) : Int) = ((2 ^ o : Nat) : Int) := by decide +kernel
theorem setC_lt : ∀ (l : List Int) (s : Nat), s < 16 → setC s l < 16
  | [], s, h => h
  | c :: r, s, h => setC_lt r _ (or16' _ h _ (pow4' _ (occI_lt c)))
theorem of_loop2 (l : List Int) (hl : l.length ≤ 1000000) : ∀ (k i s : Nat), i + k = l.length → s < 16 →
    L_query_of_1 (s : Int) (l.map intp) (l.length : Int) (i : Int) = some (.int .i64 (setC s (l.drop i) : Nat))
  | 0, i, s, h, hs => by
    rw [L_query_of_1_eq, show i = l.length by omega]
    simp [setC]
  | k + 1, i, s, h, hs => by
    have hi : i < l.length := by omega
    rw [L_query_of_1_eq, List.drop_eq_getElem_cons hi]
    simp only [lt_len hi, nat_le, cond_true, Int.toNat_natCast, List.getElem?_map, List.getElem?_eq_getElem hi, Option.map_some, Option.bind_some, c_intp, w_Split, setC]
    have hsp : ∃ q b, splitP l[i] = .tup [.int .i64 (occI l[i] : Int), q, .bool b] ∧ ∃ z, q = .int .i64 z := by
      unfold splitP occI
      cases hc : decide (0 ≤ l[i]) && decide (l[i] ≤ 15) with
      | false => exact ⟨_, _, rfl, _, rfl⟩
      | true =>
        simp only [Bool.and_eq_true, decide_eq_true_eq] at hc
        refine ⟨.int .i64 (l[i] % 4), true, ?_, l[i] % 4, rfl⟩
        simp only [cond_true]
        rw [show (((l[i] / 4).toNat : Nat) : Int) = l[i] / 4 by omega]
    obtain ⟨q, b, e, z, rfl⟩ := hsp
    have h4 := occI_lt l[i]
    rw [e]
    simp only [asTup_mk, Option.bind_some, List.getElem?_cons_zero, List.getElem?_cons_succ, c_i64_mk, c_b_mk]
    rw [decide_eq_false (show ¬ ((occI l[i] : Nat) : Int) < 0 by omega)]
    simp only [cond_false, Option.bind_some, c_i64_mk]
    rw [shl4 _ h4, bitsOr _ hs _ (pow4' _ h4), wrap_succ (by omega)]
    exact of_loop2 l hl k (i + 1) _ (by omega) (or16' _ hs _ (pow4' _ h4))
theorem w_setOf (l : List Int) (hl : l.length ≤ 1000000) : wc W n_query_of [intsp l] = some (.int .i64 (setC 0 l : Nat)) := by
  have h := e_query_of (l.map intp)
  rw [intsp_fold] at h
  rw [h, List.length_map]
  exact of_loop2 l hl l.length 0 0 (by omega) (by omega)
def setE (e : Ex) : Nat := setC 0 (colsT e)
theorem setE_lt (e : Ex) : setE e < 16 := setC_lt _ _ (by omega)
theorem w_query_Of (e : Ex) (he : e.ok) : wc W n_query_Of [e.pv] = some (.int .i64 (setE e : Nat)) := by
  have h := e_query_Of e.op e.col e.v.K e.v.N (e.l.map Ex.pv)
  rw [Ex.fold] at h
  rw [h, w_Cols e he]
  have := colsT_len e
  simp only [Option.bind_some, c_intsp, intsp_fold, w_setOf (colsT e) (by omega), c_i64_mk]
  rfl
def within2 (s t : Nat) : Bool := decide (s &&& t = t)
theorem w_holds (s t : Nat) (hs : s < 16) (ht : t < 16) : wc W n_query_set_holds [.int .i64 (s : Int), .int .i64 (t : Int)] = some (.bool (within2 s t)) := by
  rw [e_query_set_holds, bitsAnd _ hs _ ht]
  unfold within2
  by_cases h : s &&& t = t
  · rw [beq_t (by rw [h]), decide_eq_true h]
  · rw [beq_f (by omega), decide_eq_false h]
theorem some1 (P : List Ex) (g : Nat) (fs cs : List PV) (f : Nat → Bool) (hP : P.length ≤ 1000000) (hok : ∀ e ∈ P, e.ok) (hf : ∀ t, t < 16 → wc W g (fs ++ [.int .i64 ((t : Nat) : Int)] ++ cs) = some (.bool (f t))) :
    ∀ (k i : Nat) (acc : List Int), i + k = P.length → acc.length ≤ i →
    L_query_some_1 (.fn g fs cs) (P.map Ex.pv) (P.length : Int) (i : Int) (acc.map intp) = some (intsp (acc ++ ((List.range' i k).filter fun j => (P[j]?).any fun e => f (setE e)).map fun n : Nat => (n : Int)))
  | 0, i, acc, h, ha => by
    rw [L_query_some_1_eq, show i = P.length by omega]
    simp
  | k + 1, i, acc, h, ha => by
    have hi : i < P.length := by omega
    have hm := List.getElem_mem hi
    rw [L_query_some_1_eq, List.range'_succ, List.filter_cons]
    simp only [lt_len hi, nat_le, cond_true, Int.toNat_natCast, List.getElem?_map, List.getElem?_eq_getElem hi, Option.map_some, Option.bind_some, Ex.c_mk, Ex.fold, w_query_Of _ (hok _ hm), c_i64_mk, asFn_mk, hf _ (setE_lt _), c_b_mk, Option.any_some]
    rw [wrap_succ (by omega)]
    cases f (setE P[i]) with
    | true =>
      simp only [cond_true, List.length_map, Bool.true_and, decide_eq_true (show acc.length + 1 ≤ 4294967296 by omega), if_true]
      have := some1 P g fs cs f hP hok hf k (i + 1) (acc ++ [(i : Int)]) (by omega) (by simp; omega)
      simp only [List.map_append, List.map_cons, List.map_nil, List.append_assoc, List.cons_append, List.nil_append] at this ⊢
      exact this
    | false =>
      simp only [cond_false, Bool.false_eq_true, if_false]
      exact some1 P g fs cs f hP hok hf k (i + 1) acc (by omega) (by omega)
def someQ (P : List Ex) (f : Nat → Bool) : List Nat := (List.range' 0 P.length).filter fun j => (P[j]?).any fun e => f (setE e)
theorem w_Own (occ : List Int) (P : List Ex) (by_ : Int) (sums out : List Int) (ord : Int) (s : Nat) (hs : s < 16) (hP : P.length ≤ 1000000) (hok : ∀ e ∈ P, e.ok) :
    wc W n_query_Own [queryp occ (P.map Ex.pv) by_ sums out ord, .int .i64 (s : Int)] = some (intsp ((someQ P (within2 s)).map fun n : Nat => (n : Int))) := by
  have h := e_query_Own (occ.map intp) (P.map Ex.pv) by_ (sums.map intp) (out.map intp) ord (s : Int)
  have h2 := e_query_some (occ.map intp) (P.map Ex.pv) by_ (sums.map intp) (out.map intp) ord (.fn n_query_set_holds [.int .i64 (s : Int)] [])
  rw [intsp_fold, intsp_fold, intsp_fold, query_fold] at h h2
  have h3 := some1 P n_query_set_holds [.int .i64 (s : Int)] [] (within2 s) hP hok (fun t ht => w_holds s t hs ht) P.length 0 [] (by omega) (by simp)
  rw [h, h2, List.length_map]
  simp only [List.map_nil, List.nil_append] at h3
  have h4 : (0 : Int) = ((0 : Nat) : Int) := rfl
  rw [h4, h3]
  simp only [Option.bind_some, c_intsp]
  rfl
theorem w_New1 (t a b : Nat) (s : Nat) (ht : t < 16) (hs : s < 16) (ha : a < 16) (hb : b < 16) : W n_query_New_1 false [.pv (.int .i64 (t : Int)), .own 0 0, .own 1 0, .own 2 0] [.var false 0 (.pv (.int .i64 (s : Int))), .var false 0 (.pv (.int .i64 (a : Int))), .var false 0 (.pv (.int .i64 (b : Int)))] =
    some (.pv (.bool (within2 s t && !within2 a t && !within2 b t)), [.var false 0 (.pv (.int .i64 (s : Int))), .var false 0 (.pv (.int .i64 (a : Int))), .var false 0 (.pv (.int .i64 (b : Int)))]) := by
  rw [o_query_New_1_o3_1, w_holds s t hs ht, w_holds a t ha ht, w_holds b t hb ht]
  simp only [Option.bind_some, c_b_mk]
  cases within2 s t <;> cases within2 a t <;> rfl
def newF (a b t : Nat) : Bool := within2 (a ||| b) t && !within2 a t && !within2 b t
theorem some3 (P : List Ex) (a b : Nat) (ha : a < 16) (hb : b < 16) (hP : P.length ≤ 1000000) (hok : ∀ e ∈ P, e.ok) :
    ∀ (k i : Nat) (acc : List Int), i + k = P.length → acc.length ≤ i →
    L_query_some_o3_1 (P.map Ex.pv) (P.length : Int) (i : Int) ((a ||| b : Nat) : Int) (a : Int) (b : Int) (acc.map intp) =
      some (.pv (intsp (acc ++ ((List.range' i k).filter fun j => (P[j]?).any fun e => newF a b (setE e)).map fun n : Nat => (n : Int))), [.var false 0 (.pv (.int .i64 ((a ||| b : Nat) : Int))), .var false 0 (.pv (.int .i64 (a : Int))), .var false 0 (.pv (.int .i64 (b : Int)))])
  | 0, i, acc, h, hc => by
    rw [L_query_some_o3_1_eq, show i = P.length by omega]
    simp
  | k + 1, i, acc, h, hc => by
    have hi : i < P.length := by omega
    have hm := List.getElem_mem hi
    rw [L_query_some_o3_1_eq, List.range'_succ, List.filter_cons]
    simp only [lt_len hi, nat_le, cond_true, Int.toNat_natCast, List.getElem?_map, List.getElem?_eq_getElem hi, Option.map_some, Option.bind_some, Ex.c_mk, Ex.fold, w_query_Of _ (hok _ hm), c_i64_mk, w_New1 (setE P[i]) a b (a ||| b) (setE_lt _) (or16' _ ha _ hb) ha hb, k_10961c_mk, c_b_mk, Option.any_some]
    rw [wrap_succ (by omega)]
    unfold newF
    cases within2 (a ||| b) (setE P[i]) && !within2 a (setE P[i]) && !within2 b (setE P[i]) with
    | true =>
      simp only [cond_true, List.length_map, Bool.true_and, decide_eq_true (show acc.length + 1 ≤ 4294967296 by omega), if_true]
      have := some3 P a b ha hb hP hok k (i + 1) (acc ++ [(i : Int)]) (by omega) (by simp; omega)
      unfold newF at this
      simp only [List.map_append, List.map_cons, List.map_nil, List.append_assoc, List.cons_append, List.nil_append] at this ⊢
      exact this
    | false =>
      simp only [cond_false, Bool.false_eq_true, if_false]
      have := some3 P a b ha hb hP hok k (i + 1) acc (by omega) (by omega)
      unfold newF at this
      exact this
def newQ (P : List Ex) (a b : Nat) : List Nat := someQ P (newF a b)
theorem w_New (occ : List Int) (P : List Ex) (by_ : Int) (sums out : List Int) (ord : Int) (a b : Nat) (ha : a < 16) (hb : b < 16) (hP : P.length ≤ 1000000) (hok : ∀ e ∈ P, e.ok) :
    wc W n_query_New [queryp occ (P.map Ex.pv) by_ sums out ord, .int .i64 (a : Int), .int .i64 (b : Int)] = some (intsp ((newQ P a b).map fun n : Nat => (n : Int))) := by
  have h := e_query_New (occ.map intp) (P.map Ex.pv) by_ (sums.map intp) (out.map intp) ord (a : Int) (b : Int)
  have h2 := o_query_some_o3_1 (occ.map intp) (P.map Ex.pv) by_ (sums.map intp) (out.map intp) ord ((a ||| b : Nat) : Int) (a : Int) (b : Int)
  rw [intsp_fold, intsp_fold, intsp_fold, query_fold] at h h2
  have h3 := some3 P a b ha hb hP hok P.length 0 [] (by omega) (by simp)
  rw [h, bitsOr _ ha _ hb, h2, List.length_map]
  simp only [List.map_nil, List.nil_append] at h3
  have h4 : (0 : Int) = ((0 : Nat) : Int) := rfl
  rw [h4, h3]
  simp only [Option.bind_some, k_10961c_mk, c_intsp]
  rfl
theorem has4 : ∀ s : Nat, s < 16 → ∀ o : Nat, o < 4 → (IntKind.wrap .i64 (((BitVec.toNat (HAnd.hAnd (BitVec.ofInt 64 (Int.fdiv (s : Int) (HPow.hPow (2 : Int) (Min.min (Int.toNat (o : Int)) 64)))) (BitVec.ofInt 64 (1 : Int)))) : Nat) : Int) == (1 : Int)) = s.testBit o := by decide +kernel
theorem w_has (s o : Nat) (hs : s < 16) (ho : o < 4) : wc W n_query_set_has [.int .i64 (s : Int), .int .i64 (o : Int)] = some (.bool (s.testBit o)) := by
  rw [e_query_set_has, decide_eq_false (show ¬ ((o : Nat) : Int) < 0 by omega)]
  simp only [cond_false, Option.bind_some, c_i64_mk]
  rw [has4 _ hs _ ho]
def colsSet (T : List Def) (occ : List Int) (s : Nat) : List Int := allL T occ (fun o => s.testBit o) 0 (min occ.length 4)
theorem w_query_Cols (T : List Def) (occ : List Int) (P : List Ex) (by_ : Int) (sums out : List Int) (ord : Int) (s : Nat) (hsl : s < 16) (hT : T.length ≤ 9223372036854775807) (hocc : occ.length ≤ 9223372036854775807) (hP : P.length ≤ 9223372036854775807) (hok : ∀ e ∈ P, e.ok)
    (hs : sums.length ≤ 4294967296) (ho : out.length ≤ 4294967296) (hm : mayQ T occ P by_ sums out ord = true) : wc W n_query_Cols [catp T, queryp occ (P.map Ex.pv) by_ sums out ord, .int .i64 (s : Int)] = some (intsp (colsSet T occ s)) := by
  have h := e_query_Cols (T.map Def.pv) (occ.map intp) (P.map Ex.pv) by_ (sums.map intp) (out.map intp) ord (s : Int)
  rw [catp_fold, intsp_fold, intsp_fold, intsp_fold, query_fold] at h
  have hmT : mayC T = true := by
    unfold mayQ at hm
    simp only [Bool.and_eq_true] at hm
    exact hm.1.1.1.1.1.1
  have hall := w_all T hmT occ (P.map Ex.pv) by_ sums out ord n_query_set_has [.int .i64 (s : Int)] [] (fun o => s.testBit o) (fun o h => w_has s o hsl (by omega))
  rw [h, w_query_May T occ P by_ sums out ord hT hocc hP hok hs ho, hm]
  simp only [Option.bind_some, c_b_mk, Bool.not_true, cond_false, hall, c_intsp]
  rfl
def exQ (P : List Ex) (idx : List Nat) : List Ex := idx.filterMap fun i => P[i]?
theorem of_loop3 (occ : List PV) (P : List Ex) (by_ : Int) (sums out : List PV) (ord : Int) (idx : List Nat) (hi : ∀ i ∈ idx, i < P.length) (hl : idx.length ≤ 1000000) : ∀ (k j : Nat) (acc : List Ex), j + k = idx.length → acc.length ≤ j →
    L_means_of_1 occ (P.map Ex.pv) by_ sums out ord ((idx.map fun n : Nat => (n : Int)).map intp) (idx.length : Int) (j : Int) (acc.map Ex.pv) = some (exsp (acc ++ exQ P (idx.drop j)))
  | 0, j, acc, h, ha => by
    rw [L_means_of_1_eq, show j = idx.length by omega]
    simp [exQ, exsp]
  | k + 1, j, acc, h, ha => by
    have hj : j < idx.length := by omega
    have hp := hi _ (List.getElem_mem hj)
    rw [L_means_of_1_eq, List.drop_eq_getElem_cons hj]
    simp only [lt_len hj, nat_le, cond_true, Int.toNat_natCast, List.getElem?_map, List.getElem?_eq_getElem hj, Option.map_some, Option.bind_some, c_intp, List.getElem?_eq_getElem hp, Ex.c_mk, Ex.fold, List.length_map, Bool.true_and, decide_eq_true (show acc.length + 1 ≤ 4294967296 by omega)]
    rw [wrap_succ (by omega)]
    have := of_loop3 occ P by_ sums out ord idx hi hl k (j + 1) (acc ++ [P[idx[j]]]) (by omega) (by simp; omega)
    simp only [List.map_append, List.map_cons, List.map_nil] at this
    refine this.trans ?_
    have e : exQ P (idx[j] :: idx.drop (j + 1)) = P[idx[j]] :: exQ P (idx.drop (j + 1)) := by
      unfold exQ
      rw [List.filterMap_cons, List.getElem?_eq_getElem hp]
    rw [e, List.append_assoc]; rfl
theorem w_meansOf (occ : List Int) (P : List Ex) (by_ : Int) (sums out : List Int) (ord : Int) (idx : List Nat) (hi : ∀ i ∈ idx, i < P.length) (hl : idx.length ≤ 1000000) :
    wc W n_means_of [queryp occ (P.map Ex.pv) by_ sums out ord, intsp (idx.map fun n : Nat => (n : Int))] = some (exsp (exQ P idx)) := by
  have h := e_means_of (occ.map intp) (P.map Ex.pv) by_ (sums.map intp) (out.map intp) ord ((idx.map fun n : Nat => (n : Int)).map intp)
  rw [intsp_fold, intsp_fold, intsp_fold, query_fold, intsp_fold] at h
  rw [h, List.length_map, List.length_map]
  have := of_loop3 (occ.map intp) P by_ (sums.map intp) (out.map intp) ord idx hi hl idx.length 0 [] (by omega) (by simp)
  simpa using this
theorem someQ_lt {P : List Ex} {f : Nat → Bool} {i : Nat} (h : i ∈ someQ P f) : i < P.length := by
  unfold someQ at h
  have := List.mem_range'_1.1 (List.mem_filter.1 h).1
  omega
end Go.Cf

namespace Go.Cf
open Go Go.Ab
set_option linter.unusedVariables false
set_option linter.unusedSimpArgs false
inductive Tree where
  | mk (occ : Int) (l : List Tree)
namespace Tree
def occ : Tree → Int | mk o _ => o
def l : Tree → List Tree | mk _ l => l
@[simp] theorem occ_mk (o : Int) (l : List Tree) : (mk o l).occ = o := rfl
@[simp] theorem l_mk (o : Int) (l : List Tree) : (mk o l).l = l := rfl
@[simp] theorem eta (t : Tree) : mk t.occ t.l = t := by cases t; rfl
theorem ind {P : Tree → Prop} (h : ∀ o l, (∀ t ∈ l, P t) → P (mk o l)) (t : Tree) : P t :=
  Tree.rec (motive_1 := P) (motive_2 := fun l => ∀ t ∈ l, P t) (fun o l ih => h o l ih) (by simp) (fun a r ha hr => by simpa using ⟨ha, hr⟩) t
mutual
def pv : Tree → PV
  | mk o l => .agg [.int .i64 o, .slice 3 (pvs l)]
def pvs : List Tree → List PV
  | [] => []
  | t :: r => pv t :: pvs r
end
theorem pvs_map : ∀ l : List Tree, pvs l = l.map pv
  | [] => rfl
  | t :: r => by simp [pvs, pvs_map r]
theorem pv_mk (o : Int) (l : List Tree) : (mk o l).pv = .agg [.int .i64 o, .slice 3 (l.map pv)] := by rw [pv, pvs_map]
theorem pv_eq (t : Tree) : t.pv = .agg [.int .i64 t.occ, .slice 3 (t.l.map pv)] := by cases t; exact pv_mk _ _
@[simp] theorem fold (t : Tree) : PV.agg [.int .i64 t.occ, .slice 3 (t.l.map pv)] = t.pv := (pv_eq t).symm
@[simp] theorem c_mk (t : Tree) {R : Type} (K : Int → List PV → Option R) : c_g_i64_s3 t.pv K = K t.occ (t.l.map pv) := by rw [pv_eq]; rfl
def beq : Tree → Tree → Bool
  | mk o l, mk p m => decide (o = p) && beqs l m
where beqs : List Tree → List Tree → Bool
  | [], [] => true
  | a :: r, b :: s => beq a b && beqs r s
  | _, _ => false
theorem beq_iff : ∀ a b : Tree, beq a b = true ↔ a = b := by
  intro a
  induction a using ind with
  | h o l ih =>
    intro b
    obtain ⟨p, m⟩ := b
    have : ∀ (l m : List Tree), (∀ t ∈ l, ∀ b, beq t b = true ↔ t = b) → (beq.beqs l m = true ↔ l = m) := by
      intro l
      induction l with
      | nil => intro m _; cases m <;> simp [beq.beqs]
      | cons a r ih2 =>
        intro m h
        cases m with
        | nil => simp [beq.beqs]
        | cons b s => simp [beq.beqs, h a (by simp), ih2 s (fun t ht => h t (by simp [ht]))]
    simp [beq, this l m ih]
instance : DecidableEq Tree := fun a b => decidable_of_iff _ (beq_iff a b)
end Tree
namespace Tree
inductive Ok : Tree → Prop
  | mk (o : Int) (l : List Tree) (ho : I64 o) (hl : l.length ≤ maxLen) (h : ∀ t ∈ l, t.Ok) : Ok (.mk o l)
theorem Ok.occ {t : Tree} (h : t.Ok) : I64 t.occ := by cases h; assumption
theorem Ok.len {t : Tree} (h : t.Ok) : t.l.length ≤ 9223372036854775807 := by cases h; assumption
theorem Ok.part {t : Tree} (h : t.Ok) : ∀ x ∈ t.l, x.Ok := by cases h; assumption
end Tree
theorem wr_Size (t : Tree) : ∀ m : Int, t.Ok → ∃ n, wc W n_roadbookref06_Size [t.pv, .int .i64 m] = some (.int .i64 n) := by
  induction t using Tree.ind with
  | h o l ih =>
    intro m ha
    have hll := ha.len
    simp only [Tree.l_mk] at hll
    rw [Tree.pv_mk, e_roadbookref06_Size]
    have : ∀ (k i : Nat) (n : Int), i + k = l.length → ∃ r, L_roadbookref06_Size_1 m o (l.map Tree.pv) n (i : Int) = some (.int .i64 r) := by
      intro k
      induction k with
      | zero =>
        intro i n h
        simp at h; subst h
        exact ⟨n, by rw [L_roadbookref06_Size_1_eq]; simp⟩
      | succ k ih2 =>
        intro i n h
        have hi : i < l.length := by omega
        rw [L_roadbookref06_Size_1_eq]
        simp only [List.length_map, lt_len hi, cond_true]
        cases decide (n ≤ m) with
        | false => exact ⟨n, rfl⟩
        | true =>
          obtain ⟨q, hq⟩ := ih l[i] (List.getElem_mem hi) (IntKind.wrap .i64 (m - n)) (ha.part _ (List.getElem_mem hi))
          obtain ⟨r, hr⟩ := ih2 (i + 1) (IntKind.wrap .i64 (n + q)) (by omega)
          refine ⟨r, ?_⟩
          rw [cond_true, J_roadbookref06_Size_2_eq]
          simp only [nat_le, cond_true, Int.toNat_natCast, List.getElem?_map, List.getElem?_eq_getElem hi, Option.map_some, Option.bind_some, Tree.c_mk, Tree.fold, hq, c_i64_mk]
          rw [wrap64 (n := (i : Int) + 1) (by omega) (by omega)]
          exact hr
    exact this l.length 0 1 (by omega)
def setO : Nat → Tree → Option Nat
  | 0, _ => none
  | _ + 1, .mk o [] => bif decide (0 ≤ o) && decide (o < 4) then some (2 ^ o.toNat) else none
  | d + 1, .mk o [a, b] => bif decide (o = 0) then (setO d a).bind fun x => (setO d b).bind fun y => bif decide (x &&& y = 0) then some (x ||| y) else none else none
  | _ + 1, .mk _ [_] => none
  | _ + 1, .mk _ (_ :: _ :: _ :: _) => none
theorem pow4 : ∀ o : Nat, o < 4 → 2 ^ o < 16 := by decide
theorem or16 : ∀ x : Nat, x < 16 → ∀ y : Nat, y < 16 → x ||| y < 16 := by decide +kernel
theorem bif_some {α : Type} {c : Bool} {a : Option α} {r : α} (h : (bif c then a else none) = some r) : c = true ∧ a = some r := by
  cases c with
  | true => exact ⟨rfl, h⟩
  | false => cases h
theorem setO_some {d : Nat} {o : Int} {l : List Tree} {m : Nat} (h : setO (d + 1) (.mk o l) = some m) :
    (l = [] ∧ 0 ≤ o ∧ o < 4 ∧ m = 2 ^ o.toNat) ∨ (∃ a b x y, l = [a, b] ∧ o = 0 ∧ setO d a = some x ∧ setO d b = some y ∧ x &&& y = 0 ∧ m = x ||| y) := by
  rcases l with _ | ⟨a, _ | ⟨b, _ | ⟨c, l⟩⟩⟩ <;> simp only [setO] at h
  · obtain ⟨h1, h2⟩ := bif_some h
    simp only [Bool.and_eq_true, decide_eq_true_eq, Option.some.injEq] at h1 h2
    exact .inl ⟨rfl, h1.1, h1.2, h2.symm⟩
  · cases h
  · obtain ⟨h1, h2⟩ := bif_some h
    simp only [Option.bind_eq_some_iff, decide_eq_true_eq] at h1 h2
    obtain ⟨x, hx, y, hy, h3⟩ := h2
    obtain ⟨h4, h5⟩ := bif_some h3
    simp only [decide_eq_true_eq, Option.some.injEq] at h4 h5
    exact .inr ⟨a, b, x, y, rfl, h1, hx, hy, h4, h5.symm⟩
  · cases h
theorem setO_lt : ∀ (d : Nat) (t : Tree) (m : Nat), setO d t = some m → m < 16
  | 0, t, m, h => by simp [setO] at h
  | d + 1, ⟨o, l⟩, m, h => by
    rcases setO_some h with ⟨rfl, h0, h4, rfl⟩ | ⟨a, b, x, y, rfl, rfl, hx, hy, hxy, rfl⟩
    · exact pow4 _ (by omega)
    · exact or16 _ (setO_lt d a x hx) _ (setO_lt d b y hy)
theorem bits16 : ∀ x : Nat, x < 16 → ∀ y : Nat, y < 16 → IntKind.wrap .i64 (((BitVec.toNat (HOr.hOr (BitVec.ofInt 64 (x : Int)) (BitVec.ofInt 64 (y : Int)))) : Nat) : Int) = ((x ||| y : Nat) : Int) ∧
    ((IntKind.wrap .i64 (((BitVec.toNat (HAnd.hAnd (BitVec.ofInt 64 (x : Int)) (BitVec.ofInt 64 (y : Int)))) : Nat) : Int)) == (0 : Int)) = decide (x &&& y = 0) := by decide +kernel
theorem leaf16 : ∀ o : Nat, o < 4 → IntKind.wrap .i64 ((1 : Int) * (HPow.hPow (2 : Int) (Min.min (Int.toNat (bif (decide ((Int.tmod (o : Int) (4 : Int)) < (0 : Int))) then (0 : Int) else (Int.tmod (o : Int) (4 : Int)))) 64)) : Int) = ((2 ^ o : Nat) : Int) := by decide +kernel
theorem w_set : ∀ (d : Nat) (t : Tree), d < 1000 → ∃ n : Int, wc W n_tree_set [t.pv, .int .i64 (d : Int)] = some (.tup [.int .i64 n, .bool (setO d t).isSome]) ∧ ∀ m : Nat, setO d t = some m → n = m
  | 0, t, _ => by
    refine ⟨0, ?_, fun m h => by simp [setO] at h⟩
    rw [Tree.pv_eq, e_tree_set]
    simp [J_tree_set_1_eq, setO]
  | d + 1, ⟨o, l⟩, hd => by
    have hne : ((((d + 1 : Nat) : Int)) == 0) = false := beq_f (by omega)
    have hw : IntKind.wrap .i64 ((((d + 1 : Nat) : Int)) - 1) = (d : Int) := by rw [wrap64 (by omega) (by omega)]; omega
    rw [Tree.pv_mk, e_tree_set, hne]
    rcases l with _ | ⟨a, _ | ⟨b, _ | ⟨c, l⟩⟩⟩
    · have hc : decide ((bif (decide ((Int.tmod o (4 : Int)) < (0 : Int))) then (0 : Int) else (Int.tmod o (4 : Int))) < (0 : Int)) = false := by
        by_cases h : Int.tmod o 4 < 0
        · simp [h]
        · simp [h]
      simp only [cond_false, List.map_nil, List.length_nil, J_tree_set_1_eq, J_tree_set_2_eq, show ((((0 : Nat)) : Int) != (0 : Int)) = false from rfl, show ((((0 : Nat)) : Int) == (2 : Int)) = false from rfl, show ((((0 : Nat)) : Int) == (0 : Int)) = true from rfl, cond_true, hc, Option.bind_some, c_i64_mk, setO]
      by_cases h0 : 0 ≤ o
      · by_cases h4 : o < 4
        · obtain ⟨n, rfl⟩ := Int.eq_ofNat_of_zero_le h0
          refine ⟨_, by rw [decide_eq_true h0, decide_eq_true h4]; rfl, fun m h => ?_⟩
          rw [decide_eq_true h0, decide_eq_true h4] at h
          simp only [Bool.and_self, cond_true, Option.some.injEq, Int.toNat_natCast] at h; subst h
          exact leaf16 n (by omega)
        · exact ⟨_, by rw [decide_eq_true h0, decide_eq_false h4]; rfl, fun m h => by rw [decide_eq_false h4, Bool.and_false] at h; cases h⟩
      · exact ⟨_, by rw [decide_eq_false h0]; rfl, fun m h => by rw [decide_eq_false h0] at h; cases h⟩
    · exact ⟨0, by simp [J_tree_set_1_eq, setO], fun m h => by simp [setO] at h⟩
    · obtain ⟨x, hx, ex⟩ := w_set d a (by omega)
      obtain ⟨y, hy, ey⟩ := w_set d b (by omega)
      by_cases ho : o = 0
      · subst ho
        simp only [cond_false, List.map_cons, List.map_nil, List.length_cons, List.length_nil, J_tree_set_1_eq, show ((((0 + 1 + 1 : Nat)) : Int) != (0 : Int)) = true from rfl, show ((((0 + 1 + 1 : Nat)) : Int) != (2 : Int)) = false from rfl,
          show ((((0 + 1 + 1 : Nat)) : Int) == (2 : Int)) = true from rfl, show ((((0 + 1 + 1 : Nat)) : Int) == (0 : Int)) = false from rfl, cond_true, bne_self_eq_false, List.getElem?_cons_zero, List.getElem?_cons_succ, Option.bind_some, Tree.c_mk, Tree.fold, hw, hx, hy, asTup_mk, c_i64_mk, c_b_mk]
        cases ha : setO d a with
        | none => exact ⟨_, by simp [setO, ha]; rfl, fun m h => by simp [setO, ha] at h⟩
        | some p =>
          cases hb : setO d b with
          | none => exact ⟨_, by simp [setO, ha, hb]; rfl, fun m h => by simp [setO, ha, hb] at h⟩
          | some q =>
            have := ex p ha; subst this
            have := ey q hb; subst this
            obtain ⟨h1, h2⟩ := bits16 p (setO_lt d a p ha) q (setO_lt d b q hb)
            refine ⟨((p ||| q : Nat) : Int), ?_, fun m h => ?_⟩
            · simp only [Option.isSome_some, cond_true, h1, h2, setO, ha, hb, Option.bind_some, decide_true]
              cases decide (p &&& q = 0) <;> rfl
            · simp only [setO, ha, hb, Option.bind_some, decide_true, cond_true] at h
              obtain ⟨_, h3⟩ := bif_some h
              simp only [Option.some.injEq] at h3; subst h3; rfl
      · exact ⟨0, by simp [J_tree_set_1_eq, setO, ho, bne_t ho], fun m h => by simp [setO, ho] at h⟩
    · refine ⟨0, ?_, fun m h => by simp [setO] at h⟩
      have h1 : ((((a.pv :: b.pv :: c.pv :: l.map Tree.pv).length : Nat) : Int) != 0) = true := bne_t (by simp; omega)
      have h2 : ((((a.pv :: b.pv :: c.pv :: l.map Tree.pv).length : Nat) : Int) != 2) = true := bne_t (by simp; omega)
      simp only [List.map_cons, h1, h2, cond_true, cond_false, J_tree_set_1_eq]
      rfl
theorem w_May (t : Tree) : wc W n_tree_May [t.pv] = some (.bool (setO 4 t).isSome) := by
  have h := e_tree_May t.occ (t.l.map Tree.pv)
  obtain ⟨n, h1, _⟩ := w_set 4 t (by omega)
  simp only [Tree.fold] at h
  rw [h]
  have h1' : wc W n_tree_set [t.pv, .int .i64 (4 : Int)] = some (.tup [.int .i64 n, .bool (setO 4 t).isSome]) := h1
  simp [h1']
theorem w_Set (t : Tree) : wc W n_tree_Set [t.pv] = some (.int .i64 (((setO 4 t).getD 0 : Nat) : Int)) := by
  have h := e_tree_Set t.occ (t.l.map Tree.pv)
  obtain ⟨n, h1, h2⟩ := w_set 4 t (by omega)
  simp only [Tree.fold] at h
  rw [h]
  have h1' : wc W n_tree_set [t.pv, .int .i64 (4 : Int)] = some (.tup [.int .i64 n, .bool (setO 4 t).isSome]) := h1
  simp only [h1', Option.bind_some, asTup_mk, List.getElem?_cons_zero, List.getElem?_cons_succ, c_i64_mk, c_b_mk]
  cases hs : setO 4 t with
  | none => rfl
  | some m => simp [h2 m hs]
end Go.Cf

namespace Go.Cf
open Go Go.Ab
set_option linter.unusedVariables false
set_option linter.unusedSimpArgs false
theorem w_Keep0 (cols : List Int) (rows : List (List Val)) (hc : cols.length ≤ 4294967296) (hl : rows.length ≤ 4294967295) (hr : ∀ r ∈ rows, r.length ≤ 4294967296) (hv : ∀ r ∈ rows, ROk r) : wc W n_bag_Keep [bagp cols rows, .slice 6 []] = some (bagp cols rows) := by
  have h := w_Keep cols rows [] hc hl hr hv (by simp) (by simp)
  have e : rows.filter (keepL [] cols) = rows := List.filter_eq_self.2 fun _ _ => rfl
  rw [e] at h
  exact h
theorem w_tabOf (T : List Def) (D : List (List (List Val))) (t o : Int) (hT : T.length ≤ 9223372036854775807) (hD : DOk D) (hv : ∀ t ∈ D, ∀ r ∈ t, ROk r) : wc W n_data_Of [catp T, datap D, .int .i64 t, .int .i64 o] = some (ofP (ofT T D t o)) := by
  have h := e_data_Of (T.map Def.pv) (D.map tabp) t o
  rw [catp_fold, datap_fold] at h
  rw [h, w_Fits T D hT hD]
  simp only [Option.bind_some, c_b_mk, List.length_map]
  unfold ofT
  have z : PV.tup [PV.agg [PV.slice 0 [], PV.slice 0 []], PV.bool false] = ofP none := rfl
  cases hf : fits T D with
  | false => rfl
  | true =>
    obtain ⟨f1, f2, f3⟩ := fits_tab hf
    have hlen : 1 ≤ T.length ∧ T.length ≤ 4 := by
      unfold mayC at f2
      simp only [Bool.and_eq_true, decide_eq_true_eq] at f2
      omega
    rw [wrap64 (by omega) (by omega), w_in]
    simp only [Bool.not_true, cond_false, Option.bind_some, c_b_mk, Bool.true_and]
    by_cases ht : 0 ≤ t ∧ t ≤ (T.length : Int) - 1
    · rw [decide_eq_true ht.1, decide_eq_true ht.2]
      simp only [Bool.and_self, Bool.not_true, cond_false, w_Col, Option.bind_some, c_i64_mk, Bool.true_and]
      by_cases ho : 0 ≤ o ∧ o ≤ 3
      · rw [decide_eq_true ho.1, decide_eq_true ho.2]
        have hc : colI o 0 = 4 * o := by
          unfold colI
          rw [decide_eq_true ho.1, decide_eq_true ho.2]
          simp
        rw [hc, beq_f (show 4 * o ≠ -1 by omega)]
        obtain ⟨m, rfl⟩ := Int.eq_ofNat_of_zero_le ht.1
        have hm : m < T.length := by omega
        have hmD : m < D.length := by omega
        obtain ⟨hc1, hc4⟩ := mayC_cols f2 hm
        obtain ⟨r8, rr⟩ := tab_rows (f3 m hmD) hc4
        obtain ⟨n, hn⟩ := Int.eq_ofNat_of_zero_le (show 0 ≤ colsAt T m by omega)
        have hcA : T[m].Cols = (n : Int) := by
          have := hn; unfold colsAt at this; rw [List.getElem?_eq_getElem hm] at this; exact this
        simp only [cond_false, J_data_Of_1_eq, nat_le, cond_true, Int.toNat_natCast, List.getElem?_map, List.getElem?_eq_getElem hm, Option.map_some, Option.bind_some, Def.load0, c_i64_mk, hcA, Bool.and_self]
        have hloop := of_loop o ho (m : Int) (D.map tabp) n (by omega) n 0 [] (by omega) (by simp)
        refine hloop.trans ?_
        rw [L_data_Of_2_eq]
        simp only [ge_len, cond_false, nat_le, cond_true, Int.toNat_natCast, List.getElem?_map, List.getElem?_eq_getElem hmD, Option.map_some, Option.bind_some, c_tabp, List.nil_append, intsp_fold, tabp_fold, bagp_fold]
        rw [w_Keep0 (colsOf o 0 n) D[m] (by simp [colsOf]; omega) (by omega) (fun r hr => by have := (rr r hr).2.1; omega) (fun r hr => hv _ (List.getElem_mem hmD) r hr)]
        simp only [hn, Int.toNat_natCast, List.getD_eq_getElem?_getD, List.getElem?_eq_getElem hmD, Option.getD_some]
        rfl
      · have hb : (decide (0 ≤ o) && decide (o ≤ 3)) = false := by rw [← Bool.decide_and]; exact decide_eq_false ho
        have hc : colI o 0 = -1 := by unfold colI; rw [hb]; rfl
        rw [hc, hb]; rfl
    · have hb : (decide (0 ≤ t) && decide (t ≤ (T.length : Int) - 1)) = false := by rw [← Bool.decide_and]; exact decide_eq_false ht
      rw [hb]; rfl
structure QT where
  (T : List Def) (D : List (List (List Val))) (occ : List Int) (P : List Ex)
def QT.leaf (q : QT) (o : Nat) : List (List Val) := q.D.getD (q.occ.getD o 0).toNat []
def rowsT (q : QT) : Nat → Tree → List Int × List (List Val)
  | 0, _ => ([], [])
  | _ + 1, .mk o [] => (colsQ q.T q.occ o.toNat, (q.leaf o.toNat).filter (keepL (exQ q.P (someQ q.P (within2 (2 ^ o.toNat)))) (colsQ q.T q.occ o.toNat)))
  | d + 1, .mk _ [x, y] => ((rowsT q d x).1 ++ (rowsT q d y).1, (prodR (rowsT q d x).2 (rowsT q d y).2).filter (keepL (exQ q.P (newQ q.P ((setO d x).getD 0) ((setO d y).getD 0))) ((rowsT q d x).1 ++ (rowsT q d y).1)))
  | _ + 1, .mk _ [_] => ([], [])
  | _ + 1, .mk _ (_ :: _ :: _ :: _) => ([], [])
theorem setO_succ : ∀ (d : Nat) (t : Tree) (m : Nat), setO d t = some m → setO (d + 1) t = some m
  | 0, t, m, h => by simp [setO] at h
  | d + 1, .mk o l, m, h => by
    rcases setO_some h with ⟨rfl, h1, h2, rfl⟩ | ⟨a, b, x, y, rfl, rfl, hx, hy, h4, rfl⟩
    · simp [setO, h1, h2]
    · simp only [setO, setO_succ d a x hx, setO_succ d b y hy, Option.bind_some, decide_eq_true h4, decide_true, cond_true]
theorem setO_le {d : Nat} {t : Tree} {m : Nat} (h : setO d t = some m) : ∀ k, setO (d + k) t = some m
  | 0 => h
  | k + 1 => setO_succ _ _ _ (setO_le h k)
def cntS (m : Nat) : Nat := ((List.range 4).filter fun i => m.testBit i).length
theorem cntS_or : ∀ x : Nat, x < 16 → ∀ y : Nat, y < 16 → x &&& y = 0 → cntS (x ||| y) = cntS x + cntS y := by decide +kernel
theorem cntS_le : ∀ x : Nat, x < 16 → cntS x ≤ 4 := by decide +kernel
theorem cntS_pow : ∀ o : Nat, o < 4 → cntS (2 ^ o) = 1 := by decide +kernel
theorem bit_or : ∀ x : Nat, x < 16 → ∀ y : Nat, y < 16 → ∀ i : Nat, i < 4 → (x ||| y).testBit i = (x.testBit i || y.testBit i) := by decide +kernel
theorem bit_and : ∀ x : Nat, x < 16 → ∀ y : Nat, y < 16 → x &&& y = 0 → ∀ i : Nat, i < 4 → ¬ (x.testBit i = true ∧ y.testBit i = true) := by decide +kernel
theorem bit_pow : ∀ o : Nat, o < 4 → (2 ^ o).testBit o = true := by decide
structure RT (q : QT) (m : Nat) (b : List Int × List (List Val)) : Prop where
  cols : ∀ c ∈ b.1, 0 ≤ c ∧ c ≤ 15 ∧ m.testBit (c / 4).toNat = true
  nodup : b.1.Nodup
  rows : ∀ r ∈ b.2, r.length = b.1.length ∧ r.all mayV = true ∧ ROk r
  len : b.2.length ≤ 8 ^ cntS m
theorem RT.may {q : QT} {m : Nat} {b : List Int × List (List Val)} (h : RT q m b) (hm : m < 16) : mayB b.1 b.2 = true := by
  have h8 : 8 ^ cntS m ≤ 8 ^ 4 := Nat.pow_le_pow_right (by omega) (cntS_le m hm)
  unfold mayB
  simp only [Bool.and_eq_true, decide_eq_true_eq, List.all_eq_true]
  refine ⟨⟨(colsB_iff _).2 ⟨fun c hc => ⟨(h.cols c hc).1, (h.cols c hc).2.1⟩, h.nodup⟩, fun r hr => ?_⟩, by have := h.len; omega⟩
  unfold rowB
  simp only [Bool.and_eq_true, decide_eq_true_eq]
  exact ⟨(h.rows r hr).1, (h.rows r hr).2.1⟩
theorem RT.join {q : QT} {x y : Nat} {a b : List Int × List (List Val)} (ha : RT q x a) (hb : RT q y b) (hx : x < 16) (hy : y < 16) (hxy : x &&& y = 0) (f : List Val → Bool) : RT q (x ||| y) (a.1 ++ b.1, (prodR a.2 b.2).filter f) where
  cols := fun c hc => by
    rcases List.mem_append.1 hc with hc | hc
    · obtain ⟨h1, h2, h3⟩ := ha.cols c hc
      exact ⟨h1, h2, by rw [bit_or _ hx _ hy _ (by omega), h3]; rfl⟩
    · obtain ⟨h1, h2, h3⟩ := hb.cols c hc
      exact ⟨h1, h2, by rw [bit_or _ hx _ hy _ (by omega), h3, Bool.or_true]⟩
  nodup := List.nodup_append.2 ⟨ha.nodup, hb.nodup, fun c hc d hd e => by
    subst e
    obtain ⟨h1, h2, h3⟩ := ha.cols c hc
    exact bit_and _ hx _ hy hxy _ (by omega) ⟨h3, (hb.cols c hd).2.2⟩⟩
  rows := fun r hr => by
    have hr2 := (List.mem_filter.1 hr).1
    unfold prodR at hr2
    obtain ⟨u, hu, hr3⟩ := List.mem_flatMap.1 hr2
    obtain ⟨v, hv, rfl⟩ := List.mem_map.1 hr3
    obtain ⟨a1, a2, a3⟩ := ha.rows u hu
    obtain ⟨b1, b2, b3⟩ := hb.rows v hv
    refine ⟨by simp [a1, b1], by rw [List.all_append, a2, b2]; rfl, fun z hz => ?_⟩
    rcases List.mem_append.1 hz with h | h
    · exact a3 z h
    · exact b3 z h
  len := by
    have h1 := List.length_filter_le f (prodR a.2 b.2)
    rw [prodR_len] at h1
    rw [cntS_or _ hx _ hy hxy, Nat.pow_add]
    exact Nat.le_trans h1 (Nat.mul_le_mul ha.len hb.len)
theorem RT.leaf {q : QT} (hf : fits q.T q.D = true) (hv : ∀ t ∈ q.D, ∀ r ∈ t, ROk r) {o : Nat} (ho : o < 4) (ht : 0 ≤ q.occ.getD o 0 ∧ q.occ.getD o 0 < (q.T.length : Int)) (f : List Val → Bool) : RT q (2 ^ o) (colsQ q.T q.occ o, (q.leaf o).filter f) := by
  obtain ⟨f1, f2, f3⟩ := fits_tab hf
  obtain ⟨m, hm⟩ := Int.eq_ofNat_of_zero_le ht.1
  have hmT : m < q.T.length := by omega
  have hmD : m < q.D.length := by omega
  obtain ⟨hc1, hc4⟩ := mayC_cols f2 hmT
  obtain ⟨r8, rr⟩ := tab_rows (f3 m hmD) hc4
  obtain ⟨n, hn⟩ := Int.eq_ofNat_of_zero_le (show 0 ≤ colsAt q.T m by omega)
  have el : q.leaf o = q.D[m] := by unfold QT.leaf; rw [hm, Int.toNat_natCast, List.getD_eq_getElem?_getD, List.getElem?_eq_getElem hmD]; rfl
  have ec : colsQ q.T q.occ o = colsOf (o : Int) 0 n := by unfold colsQ; rw [hm, Int.toNat_natCast, hn, Int.toNat_natCast]
  rw [el, ec]
  refine ⟨fun c hc => ?_, ?_, fun r hr => ?_, ?_⟩
  · unfold colsOf at hc
    obtain ⟨i, hi, rfl⟩ := List.mem_map.1 hc
    have := List.mem_range'_1.1 hi
    refine ⟨by omega, by omega, ?_⟩
    rw [show ((4 * (o : Int) + (i : Int)) / 4).toNat = o by omega]
    exact bit_pow o ho
  · unfold colsOf
    exact List.pairwise_map.2 ((List.nodup_range' (s := 0) (n := n)).imp fun {a b} h e => h (by omega))
  · have hr2 := (List.mem_filter.1 hr).1
    obtain ⟨h1, h2, h3⟩ := rr r hr2
    exact ⟨by rw [colsOf_len]; omega, h3, hv _ (List.getElem_mem hmD) r hr2⟩
  · have h1 := List.length_filter_le f q.D[m]
    show (q.D[m].filter f).length ≤ _
    rw [cntS_pow o ho, Nat.pow_one]
    omega
theorem rowsT_ok {q : QT} (hf : fits q.T q.D = true) (hv : ∀ t ∈ q.D, ∀ r ∈ t, ROk r) (hocc : q.occ.length ≤ 4) (hin : ∀ t ∈ q.occ, 0 ≤ t ∧ t < (q.T.length : Int)) : ∀ (d : Nat) (t : Tree) (m : Nat), setO d t = some m → m < 2 ^ q.occ.length → RT q m (rowsT q d t)
  | 0, t, m, h, _ => by simp [setO] at h
  | d + 1, .mk o l, m, h, hm => by
    rcases setO_some h with ⟨rfl, h1, h2, rfl⟩ | ⟨a, b, x, y, rfl, rfl, hx, hy, h4, rfl⟩
    · obtain ⟨n, rfl⟩ := Int.eq_ofNat_of_zero_le h1
      simp only [rowsT, Int.toNat_natCast] at hm ⊢
      have hno : n < q.occ.length := (Nat.pow_lt_pow_iff_right (by omega)).1 hm
      have hg : q.occ.getD n 0 = q.occ[n] := by rw [List.getD_eq_getElem?_getD, List.getElem?_eq_getElem hno]; rfl
      exact RT.leaf hf hv (by omega) (by rw [hg]; exact hin _ (List.getElem_mem hno)) _
    · have hle1 : x ≤ x ||| y := Nat.left_le_or
      have hle2 : y ≤ x ||| y := Nat.right_le_or
      exact RT.join (rowsT_ok hf hv hocc hin d a x hx (by omega)) (rowsT_ok hf hv hocc hin d b y hy (by omega)) (setO_lt _ _ _ hx) (setO_lt _ _ _ hy) h4 _
def closT (q : QT) (Q : PV) : Ob := .var false 0 (.fnv n_means_Rows_1 [] [.pv (.imm 2 (catp q.T) 0), .pv (.imm 2 (datap q.D) 0), .pv (.imm 7 Q 0), .own 0 0])
theorem closT_fold (q : QT) (Q : PV) : Ob.var false 0 (.fnv n_means_Rows_1 [] [.pv (.imm 2 (catp q.T) 0), .pv (.imm 2 (datap q.D) 0), .pv (.imm 7 Q 0), .own 0 0]) = closT q Q := rfl
theorem closT_k (q : QT) (by_ : Int) (sums out : List Int) (ord : Int) (z : PV) {R : Type} (K : PV → List PV → List PV → List PV → List PV → Int → List PV → List PV → Int → Option R) :
    k_abad21 (.pv z, [closT q (queryp q.occ (q.P.map Ex.pv) by_ sums out ord)]) K = K z (q.T.map Def.pv) (q.D.map tabp) (q.occ.map intp) (q.P.map Ex.pv) by_ (sums.map intp) (out.map intp) ord := rfl
theorem w_must (c : List Int) (r : List (List Val)) : wc W n_means_must [bagp c r, .bool true] = some (bagp c r) := by
  have h := e_means_must (c.map intp) (r.map rowp) true
  rw [intsp_fold, tabp_fold, bagp_fold] at h
  exact h
structure QOk (q : QT) : Prop where
  fits : fits q.T q.D = true
  vals : ∀ t ∈ q.D, ∀ r ∈ t, ROk r
  occ : q.occ.length ≤ 4
  inT : ∀ t ∈ q.occ, 0 ≤ t ∧ t < (q.T.length : Int)
  T : q.T.length ≤ 9223372036854775807
  D : DOk q.D
  P : q.P.length ≤ 1000000
  ok : ∀ e ∈ q.P, e.ok ∧ e.vals
theorem exQ_mem {P : List Ex} {idx : List Nat} {e : Ex} (h : e ∈ exQ P idx) : e ∈ P := by
  unfold exQ at h
  obtain ⟨i, _, hi⟩ := List.mem_filterMap.1 h
  exact List.mem_of_getElem? hi
theorem exQ_len (P : List Ex) (idx : List Nat) : (exQ P idx).length ≤ idx.length := List.length_filterMap_le _ _
theorem someQ_len (P : List Ex) (f : Nat → Bool) : (someQ P f).length ≤ P.length := by
  have := List.length_filter_le (fun j => (P[j]?).any fun e => f (setE e)) (List.range' 0 P.length)
  rw [List.length_range'] at this
  exact this
theorem keep_of {q : QT} (hq : QOk q) (idx : List Nat) (hi : idx.length ≤ 1000000) {m : Nat} {b : List Int × List (List Val)} (c : List Int) (r : List (List Val)) (hc : c.length ≤ 16) (hr : r.length ≤ 5000) (hl : ∀ x ∈ r, x.length ≤ 16 ∧ ROk x) :
    wc W n_bag_Keep [bagp c r, exsp (exQ q.P idx)] = some (bagp c (r.filter (keepL (exQ q.P idx) c))) := by
  have := exQ_len q.P idx
  exact w_Keep c r _ (by omega) (by omega) (fun x hx => by have := (hl x hx).1; omega) (fun x hx => (hl x hx).2) (by omega) (fun e he => hq.ok e (exQ_mem he))
@[simp] theorem c_exsp (l : List Ex) {R : Type} (f : List PV → Option R) : c_s6 (exsp l) f = f (l.map Ex.pv) := rfl
theorem w_Rows1 {q : QT} (hq : QOk q) (by_ : Int) (sums out : List Int) (ord : Int) : ∀ (d : Nat) (t : Tree) (m : Nat), d ≤ 4 → setO d t = some m → m < 2 ^ q.occ.length →
    W n_means_Rows_1 false [.pv t.pv, .pv (.imm 2 (catp q.T) 0), .pv (.imm 2 (datap q.D) 0), .pv (.imm 7 (queryp q.occ (q.P.map Ex.pv) by_ sums out ord) 0), .own 0 0] [closT q (queryp q.occ (q.P.map Ex.pv) by_ sums out ord)] =
      some (.pv (bagp (rowsT q d t).1 (rowsT q d t).2), [closT q (queryp q.occ (q.P.map Ex.pv) by_ sums out ord)])
  | 0, t, m, _, h, _ => by simp [setO] at h
  | d + 1, .mk o l, m, hd, h, hm => by
    have hok : ∀ e ∈ q.P, e.ok := fun e he => (hq.ok e he).1
    have hset := setO_le h (4 - (d + 1))
    rw [show d + 1 + (4 - (d + 1)) = 4 by omega] at hset
    have hws := w_Set (.mk o l)
    rw [hset, Option.getD_some] at hws
    have hme := rowsT_ok hq.fits hq.vals hq.occ hq.inT (d + 1) (.mk o l) m h hm
    have hmm := setO_lt _ _ _ h
    have e := o_means_Rows_1_o1_1 o (l.map Tree.pv) (q.T.map Def.pv) (q.D.map tabp) (q.occ.map intp) (q.P.map Ex.pv) by_ (sums.map intp) (out.map intp) ord (q.T.map Def.pv) (q.D.map tabp) (q.occ.map intp) (q.P.map Ex.pv) by_ (sums.map intp) (out.map intp) ord
    rw [← Tree.pv_mk] at e
    simp only [catp_fold, datap_fold, intsp_fold, query_fold, closT_fold] at e
    refine e.trans ?_
    rcases setO_some h with ⟨rfl, h1, h2, rfl⟩ | ⟨a, b, x, y, rfl, rfl, hx, hy, h4, rfl⟩
    · obtain ⟨n, rfl⟩ := Int.eq_ofNat_of_zero_le h1
      simp only [Int.toNat_natCast] at hm hws hmm hme
      have hno : n < q.occ.length := (Nat.pow_lt_pow_iff_right (by omega)).1 hm
      have hg : q.occ.getD n 0 = q.occ[n] := by rw [List.getD_eq_getElem?_getD, List.getElem?_eq_getElem hno]; rfl
      have hin := hq.inT _ (List.getElem_mem hno)
      have hof := w_tabOf q.T q.D q.occ[n] (n : Int) hq.T hq.D hq.vals
      have e1 : ofT q.T q.D q.occ[n] (n : Int) = some (colsQ q.T q.occ n, q.leaf n) := by
        unfold ofT
        rw [hq.fits, decide_eq_true hin.1, decide_eq_true (show q.occ[n] ≤ (q.T.length : Int) - 1 by omega), decide_eq_true (show (0 : Int) ≤ n by omega), decide_eq_true (show (n : Int) ≤ 3 by omega)]
        unfold colsQ QT.leaf
        rw [hg]; rfl
      rw [e1] at hof
      have hall := RT.leaf (q := q) hq.fits hq.vals (o := n) (by omega) (by rw [hg]; exact hin) (fun _ => true)
      rw [List.filter_eq_self.2 (fun _ _ => rfl)] at hall
      have hmay := hall.may (pow4' n (by omega))
      obtain ⟨m1, m2, m3⟩ := mayB_row hmay
      have hown := w_Own q.occ q.P by_ sums out ord (2 ^ n) (pow4' n (by omega)) hq.P hok
      have hmo := w_meansOf q.occ q.P by_ sums out ord (someQ q.P (within2 (2 ^ n))) (fun i hi => someQ_lt hi) (by have := someQ_len q.P (within2 (2 ^ n)); have := hq.P; omega)
      have hk := keep_of hq (someQ q.P (within2 (2 ^ n))) (by have := someQ_len q.P (within2 (2 ^ n)); have := hq.P; omega) (m := 0) (b := ([], [])) (colsQ q.T q.occ n) (q.leaf n) m1 m2 (fun x hx => ⟨by rw [(m3 x hx).1]; exact m1, (hall.rows x hx).2.2⟩)
      have hz : (((0 : Nat) : Int) == (0 : Int)) = true := rfl
      simp only [List.map_nil, List.length_nil, hz, c_exsp, exsp_fold, beq_self_eq_true, cond_true, nat_le, Int.toNat_natCast, List.getElem?_map, List.getElem?_eq_getElem hno, Option.map_some, Option.bind_some, c_intp, hof, ofP, asTup_mk, List.getElem?_cons_zero, List.getElem?_cons_succ, c_bagp, c_b_mk, intsp_fold, tabp_fold, bagp_fold, w_must, hws, c_i64_mk, hown, c_intsp, hmo, hk, rowsT]
    · have hle1 : x ≤ x ||| y := Nat.left_le_or
      have hle2 : y ≤ x ||| y := Nat.right_le_or
      have hxl := setO_lt _ _ _ hx
      have hyl := setO_lt _ _ _ hy
      have ih1 := w_Rows1 hq by_ sums out ord d a x (by omega) hx (by omega)
      have ih2 := w_Rows1 hq by_ sums out ord d b y (by omega) hy (by omega)
      have ra := rowsT_ok hq.fits hq.vals hq.occ hq.inT d a x hx (by omega)
      have rb := rowsT_ok hq.fits hq.vals hq.occ hq.inT d b y hy (by omega)
      have hsa := w_Set a
      have hsb := w_Set b
      have sa := setO_le hx (4 - d)
      have sb := setO_le hy (4 - d)
      rw [show d + (4 - d) = 4 by omega] at sa sb
      rw [sa, Option.getD_some] at hsa
      rw [sb, Option.getD_some] at hsb
      have rj := ra.join rb hxl hyl h4 (fun _ => true)
      rw [List.filter_eq_self.2 (fun _ _ => rfl)] at rj
      have hmj := rj.may hmm
      obtain ⟨m1, m2, m3⟩ := mayB_row hmj
      have hma := ra.may hxl
      have hmb := rb.may hyl
      obtain ⟨a1, a2, a3⟩ := mayB_row hma
      obtain ⟨b1, b2, b3⟩ := mayB_row hmb
      have hcr := w_Cross (rowsT q d a).1 (rowsT q d a).2 (rowsT q d b).1 (rowsT q d b).2 (by omega) (by omega) (by omega) (fun z hz => by rw [(a3 z hz).1]; omega) (fun z hz => by rw [(b3 z hz).1]; omega)
      have e2 : crossB (rowsT q d a).1 (rowsT q d a).2 (rowsT q d b).1 (rowsT q d b).2 = some ((rowsT q d a).1 ++ (rowsT q d b).1, prodR (rowsT q d a).2 (rowsT q d b).2) := by
        unfold crossB
        have h5 : mayB ((rowsT q d a).1 ++ (rowsT q d b).1) [] = true := by
          unfold mayB at hmj ⊢
          simp only [Bool.and_eq_true] at hmj
          rw [hmj.1.1]; rfl
        rw [hma, hmb, h5, decide_eq_true (show (rowsT q d a).2.length * (rowsT q d b).2.length ≤ 5000 by rw [← prodR_len]; exact m2)]
        rfl
      rw [e2] at hcr
      have hnw := w_New q.occ q.P by_ sums out ord x y hxl hyl hq.P hok
      have hnl : (newQ q.P x y).length ≤ 1000000 := by have := someQ_len q.P (newF x y); have := hq.P; unfold newQ; omega
      have hmo := w_meansOf q.occ q.P by_ sums out ord (newQ q.P x y) (fun i hi => someQ_lt hi) hnl
      have hk := keep_of hq (newQ q.P x y) hnl (m := 0) (b := ([], [])) ((rowsT q d a).1 ++ (rowsT q d b).1) (prodR (rowsT q d a).2 (rowsT q d b).2) m1 m2 (fun z hz => ⟨by rw [(m3 z hz).1]; exact m1, (rj.rows z hz).2.2⟩)
      have hz : (((0 + 1 + 1 : Nat) : Int) == (0 : Int)) = false := rfl
      simp only [List.map_nil, List.map_cons, List.length_cons, List.length_nil, hz, cond_false, List.getElem?_cons_zero, List.getElem?_cons_succ, Option.bind_some, Tree.c_mk, Tree.fold, ih1, closT_k, catp_fold, datap_fold, intsp_fold, query_fold, closT_fold, eqOw_self, cond_true, c_bagp, ih2, tabp_fold, bagp_fold, hcr, bagR, asTup_mk, c_b_mk, w_must, hsa, hsb, c_i64_mk, hnw, c_intsp, hmo, c_exsp, exsp_fold, hk, rowsT, hx, hy, Option.getD_some]
      have ee : eqOw [closT q (.agg [intsp q.occ, exsp q.P, .int .i64 by_, intsp sums, intsp out, .int .i64 ord]), .var false 3 (.agg [.nil 0, .nil 0])] [closT q (queryp q.occ (q.P.map Ex.pv) by_ sums out ord), .var false 3 (.agg [.nil 0, .nil 0])] = true := eqOw_self _
      simp only [ee, cond_true]
end Go.Cf

namespace Go.Cf
open Go Go.Ab
set_option linter.unusedVariables false
set_option linter.unusedSimpArgs false
theorem w_Rows2 {q : QT} (hq : QOk q) (by_ : Int) (sums out : List Int) (ord : Int) (t : Tree) (m : Nat) (h : setO 4 t = some m) (hm : m < 2 ^ q.occ.length) :
    W n_means_told false [.fnv n_means_Rows_2 [] [.own 0 0, .pv (.imm 3 t.pv 0)]] [closT q (queryp q.occ (q.P.map Ex.pv) by_ sums out ord)] =
      some (.pv (.tup [bagp (rowsT q 4 t).1 (rowsT q 4 t).2, .bool true]), [closT q (queryp q.occ (q.P.map Ex.pv) by_ sums out ord)]) := by
  have e := o_means_Rows_2_o1_1 t.occ (t.l.map Tree.pv) (q.T.map Def.pv) (q.D.map tabp) (q.occ.map intp) (q.P.map Ex.pv) by_ (sums.map intp) (out.map intp) ord
  have h1 := w_Rows1 hq by_ sums out ord 4 t m (by omega) h hm
  simp only [Tree.fold, catp_fold, datap_fold, intsp_fold, query_fold, closT_fold] at e
  rw [h1] at e
  simp only [Option.bind_some, closT_k, c_bagp, catp_fold, datap_fold, intsp_fold, tabp_fold, bagp_fold] at e
  have e2 : W n_means_Rows_2 false [.own 0 0, .pv (.imm 3 t.pv 0)] [closT q (queryp q.occ (q.P.map Ex.pv) by_ sums out ord)] = some (.pv (bagp (rowsT q 4 t).1 (rowsT q 4 t).2), [closT q (queryp q.occ (q.P.map Ex.pv) by_ sums out ord)]) := e
  rw [x_means_told]
  unfold toldG
  have hg : [n_means_All_1, n_means_Rows_2].contains n_means_Rows_2 = true := by decide
  have hsh : (bagp (rowsT q 4 t).1 (rowsT q 4 t).2).okSh 3 = true := rfl
  simp only [hg, cond_true, List.nil_append, e2, Option.bind_some, hsh]
def rowsQ (q : QT) (may : Bool) (t : Tree) : Option (List Int × List (List Val)) :=
  match setO 4 t with
  | none => none
  | some m => bif may && fits q.T q.D && decide (m < 2 ^ q.occ.length) then some (rowsT q 4 t) else none
theorem shr16 : ∀ m : Nat, m < 16 → ∀ n : Nat, n < 5 → decide (Int.fdiv (m : Int) (HPow.hPow (2 : Int) (Min.min (Int.toNat (n : Int)) 64)) > 0) = !decide (m < 2 ^ n) := by decide +kernel
theorem w_Rows (q : QT) (by_ : Int) (sums out : List Int) (ord : Int) (t : Tree) (hT : q.T.length ≤ 9223372036854775807) (hocc : q.occ.length ≤ 9223372036854775807) (hP : q.P.length ≤ 1000000) (hok : ∀ e ∈ q.P, e.ok ∧ e.vals) (hs : sums.length ≤ 4294967296) (ho : out.length ≤ 4294967296)
    (hD : DOk q.D) (hv : ∀ t ∈ q.D, ∀ r ∈ t, ROk r) :
    wc W n_means_Rows [catp q.T, datap q.D, queryp q.occ (q.P.map Ex.pv) by_ sums out ord, t.pv] = some (bagR (rowsQ q (mayQ q.T q.occ q.P by_ sums out ord) t)) := by
  have h := e_means_Rows (q.T.map Def.pv) (q.D.map tabp) (q.occ.map intp) (q.P.map Ex.pv) by_ (sums.map intp) (out.map intp) ord t.occ (t.l.map Tree.pv)
  simp only [Tree.fold, catp_fold, datap_fold, intsp_fold, query_fold] at h
  refine h.trans ?_
  have e0 : PV.tup [PV.agg [PV.slice 0 [], PV.slice 0 []], PV.bool false] = bagR none := rfl
  rw [w_query_May q.T q.occ q.P by_ sums out ord hT hocc (by omega) (fun e he => (hok e he).1) hs ho, w_Fits q.T q.D hT hD, w_May t, w_Set t]
  simp only [Option.bind_some, c_b_mk, c_i64_mk, List.length_map]
  unfold rowsQ
  cases h1 : mayQ q.T q.occ q.P by_ sums out ord with
  | false => cases setO 4 t <;> rfl
  | true =>
  cases h2 : fits q.T q.D with
  | false => cases setO 4 t <;> rfl
  | true =>
  cases h3 : setO 4 t with
  | none => rfl
  | some m =>
    have hm16 := setO_lt _ _ _ h3
    have hparts := h1
    unfold mayQ at hparts
    simp only [Bool.and_eq_true, decide_eq_true_eq, List.all_eq_true] at hparts
    have hocc4 : q.occ.length ≤ 4 := hparts.1.1.1.1.2
    have hin : ∀ t ∈ q.occ, 0 ≤ t ∧ t < (q.T.length : Int) := hparts.1.1.1.2
    simp only [Bool.not_true, cond_false, Option.isSome_some, Option.getD_some, shr16 m hm16 q.occ.length (by omega), Bool.true_and]
    cases h4 : decide (m < 2 ^ q.occ.length) with
    | false => rfl
    | true =>
      simp only [Bool.not_true, cond_false, cond_true, J_means_Rows_1_eq]
      have hq : QOk q := ⟨h2, hv, hocc4, hin, hT, hD, hP, hok⟩
      have h5 := w_Rows2 hq by_ sums out ord t m h3 (of_decide_eq_true h4)
      simp only [Tree.fold, catp_fold, datap_fold, intsp_fold, query_fold, closT_fold, h5, Option.bind_some, closT_k, asTup_mk, List.getElem?_cons_zero, List.getElem?_cons_succ, c_bagp, c_b_mk, tabp_fold, bagp_fold]
      rfl
theorem bit_pow2 : ∀ n : Nat, n < 4 → ∀ o : Nat, o < 4 → ((2 ^ n).testBit o = true ↔ o = n) := by decide
theorem mem_rowsT (q : QT) : ∀ (d : Nat) (t : Tree) (m : Nat), setO d t = some m → ∀ c, c ∈ (rowsT q d t).1 ↔ ∃ o, o < 4 ∧ m.testBit o = true ∧ c ∈ colsQ q.T q.occ o
  | 0, t, m, h, c => by simp [setO] at h
  | d + 1, .mk o l, m, h, c => by
    rcases setO_some h with ⟨rfl, h1, h2, rfl⟩ | ⟨a, b, x, y, rfl, rfl, hx, hy, h4, rfl⟩
    · obtain ⟨n, rfl⟩ := Int.eq_ofNat_of_zero_le h1
      simp only [rowsT, Int.toNat_natCast]
      constructor
      · intro hc; exact ⟨n, by omega, bit_pow n (by omega), hc⟩
      · rintro ⟨o, ho, hb, hc⟩
        rw [(bit_pow2 n (by omega) o ho).1 hb] at hc; exact hc
    · simp only [rowsT, List.mem_append, mem_rowsT q d a x hx c, mem_rowsT q d b y hy c]
      have hxl := setO_lt _ _ _ hx
      have hyl := setO_lt _ _ _ hy
      constructor
      · rintro (⟨o, ho, hb, hc⟩ | ⟨o, ho, hb, hc⟩)
        · exact ⟨o, ho, by rw [bit_or _ hxl _ hyl o ho, hb]; rfl, hc⟩
        · exact ⟨o, ho, by rw [bit_or _ hxl _ hyl o ho, hb, Bool.or_true], hc⟩
      · rintro ⟨o, ho, hb, hc⟩
        rw [bit_or _ hxl _ hyl o ho, Bool.or_eq_true] at hb
        rcases hb with hb | hb
        · exact .inl ⟨o, ho, hb, hc⟩
        · exact .inr ⟨o, ho, hb, hc⟩
theorem mem_allL (T : List Def) (occ : List Int) (is : Nat → Bool) (k i : Nat) (c : Int) : c ∈ allL T occ is i k ↔ ∃ o, i ≤ o ∧ o < i + k ∧ is o = true ∧ tabAt T occ o = true ∧ c ∈ colsQ T occ o := by
  unfold allL
  simp only [List.mem_flatMap, List.mem_range'_1]
  constructor
  · rintro ⟨o, ⟨h1, h2⟩, h3⟩
    cases hb : is o && tabAt T occ o with
    | false => rw [hb] at h3; cases h3
    | true =>
      rw [hb] at h3
      simp only [Bool.and_eq_true] at hb
      exact ⟨o, h1, h2, hb.1, hb.2, h3⟩
  · rintro ⟨o, h1, h2, h3, h4, h5⟩
    exact ⟨o, ⟨h1, h2⟩, by rw [h3, h4]; exact h5⟩
end Go.Cf

namespace Go.Cf
open Go Go.Ab
set_option linter.unusedVariables false
set_option linter.unusedSimpArgs false
theorem idx_append {c d : List Int} {x : Int} (h : inC c x = true) : idxI (c ++ d) (fun y => x == y) = idxI c (fun y => x == y) := by
  have h0 : c.any (fun y => x == y) = true := by
    unfold inC at h
    exact List.any_eq_true.2 ⟨x, of_decide_eq_true h, by simp⟩
  unfold idxI
  rw [List.findIdx?_append]
  cases hf : c.findIdx? (fun y => x == y) with
  | some i => rfl
  | none =>
    have := List.findIdx?_eq_none_iff.1 hf
    obtain ⟨y, hy, e⟩ := List.any_eq_true.1 h0
    rw [this y hy] at e; cases e
theorem look_append {c d : List Int} {r s : List Val} {x : Int} (h : inC c x = true) (hl : r.length = c.length) : lookR (c ++ d) (r ++ s) x = lookR c r x := by
  have h1 := (lookR_in h hl)
  have h3 := idxI_len c x
  have h4 : decide (idxI c (fun y => x == y) < 0) = false := by rw [idxI_lt, h]; rfl
  have hlt : (idxI c (fun y => x == y)).toNat < r.length := by omega
  unfold lookR
  rw [idx_append h, h4, decide_eq_false (show ¬ idxI c (fun y => x == y) ≥ (r.length : Int) by omega), decide_eq_false (show ¬ idxI c (fun y => x == y) ≥ ((r ++ s).length : Int) by rw [List.length_append]; omega)]
  simp only [cond_false, List.getD_eq_getElem?_getD, List.getElem?_append_left hlt]
theorem idx_append2 {c d : List Int} {x : Int} (h : inC c x = false) (hd : inC d x = true) : idxI (c ++ d) (fun y => x == y) = (c.length : Int) + idxI d (fun y => x == y) := by
  unfold idxI
  rw [List.findIdx?_append]
  have h1 : c.findIdx? (fun y => x == y) = none := by
    rw [List.findIdx?_eq_none_iff]
    intro y hy
    unfold inC at h
    have := of_decide_eq_false h
    simp only [beq_eq_false_iff_ne]
    intro e; subst e; exact this hy
  rw [h1]
  have h2 : decide (idxI d (fun y => x == y) < 0) = false := by rw [idxI_lt, hd]; rfl
  have h3 := of_decide_eq_false h2
  unfold idxI at h3
  cases hf : d.findIdx? (fun y => x == y) with
  | none => rw [hf] at h3; simp only at h3; omega
  | some i => simp only [Option.none_or, Option.map_some]; omega
theorem look_append2 {c d : List Int} {r s : List Val} {x : Int} (h : inC c x = false) (hd : inC d x = true) (hl : r.length = c.length) (hs : s.length = d.length) : lookR (c ++ d) (r ++ s) x = lookR d s x := by
  have hin : inC (c ++ d) x = true := by
    unfold inC at hd ⊢
    exact decide_eq_true (List.mem_append_right _ (of_decide_eq_true hd))
  obtain ⟨h1, h2⟩ := lookR_in (row := r ++ s) hin (by simp [hl, hs])
  obtain ⟨h3, h4⟩ := lookR_in (row := s) hd hs
  rw [idx_append2 h hd] at h1
  have e : ((c.length : Int) + idxI d (fun y => x == y)).toNat = r.length + (idxI d (fun y => x == y)).toNat := by omega
  rw [e, List.getElem?_append_right (by omega), Nat.add_sub_cancel_left, h3] at h1
  exact (Option.some.inj h1).symm
theorem or_bit : ∀ s : Nat, s < 16 → ∀ o : Nat, o < 4 → ∀ i : Nat, i < 4 → (s ||| 2 ^ o).testBit i = (s.testBit i || decide (i = o)) := by decide +kernel
theorem setC_bit : ∀ (l : List Int) (s : Nat) (i : Nat), s < 16 → i < 4 → (s.testBit i = true ∨ ∃ c ∈ l, occI c = i) → (setC s l).testBit i = true
  | [], s, i, hs, hi, h => by
    rcases h with h | ⟨c, hc, _⟩
    · exact h
    · cases hc
  | c :: r, s, i, hs, hi, h => by
    have h4 := occI_lt c
    refine setC_bit r _ i (or16' _ hs _ (pow4' _ h4)) hi ?_
    rw [or_bit _ hs _ h4 _ hi]
    rcases h with h | ⟨c', hc, e⟩
    · exact .inl (by rw [h]; rfl)
    · rcases List.mem_cons.1 hc with rfl | hc
      · exact .inl (by rw [decide_eq_true e.symm, Bool.or_true])
      · exact .inr ⟨c', hc, e⟩
theorem part_bit : ∀ m : Nat, m < 16 → ∀ s : Nat, s < 16 → m &&& s = s → ∀ o : Nat, o < 4 → s.testBit o = true → m.testBit o = true := by decide +kernel
def ColsOk (q : QT) (e : Ex) : Prop := ∀ c ∈ colsT e, c ∈ colsQ q.T q.occ (occI c)
theorem occ_colsQ {T : List Def} (hT : mayC T = true) {occ : List Int} {o : Nat} (ho : o < 4) (ht : tabAt T occ o = true) {c : Int} (h : c ∈ colsQ T occ o) : occI c = o ∧ 4 * (o : Int) ≤ c ∧ c < 4 * (o : Int) + 4 := by
  unfold tabAt at ht
  simp only [Bool.and_eq_true, decide_eq_true_eq] at ht
  have hc := mayC_cols hT (i := (occ.getD o 0).toNat) (by omega)
  unfold colsQ colsOf at h
  obtain ⟨i, hi, rfl⟩ := List.mem_map.1 h
  have := List.mem_range'_1.1 hi
  refine ⟨?_, by omega, by omega⟩
  unfold occI
  rw [decide_eq_true (by omega), decide_eq_true (by omega)]
  simp only [Bool.and_self, cond_true]
  omega
theorem keep_all {q : QT} (hq : QOk q) (hc : ∀ e ∈ q.P, ColsOk q e) : ∀ (d : Nat) (t : Tree) (m : Nat), setO d t = some m → m < 2 ^ q.occ.length → ∀ r ∈ (rowsT q d t).2, ∀ i ∈ someQ q.P (within2 m), ∀ e, q.P[i]? = some e → keepE e (rowsT q d t).1 r = true
  | 0, t, m, h, _ => by simp [setO] at h
  | d + 1, .mk o l, m, h, hm => by
    intro r hr i hi e he
    have heP : e ∈ q.P := List.mem_of_getElem? he
    have hiw : within2 m (setE e) = true := by
      unfold someQ at hi
      have := (List.mem_filter.1 hi).2
      rw [he] at this
      simpa using this
    have hbits : ∀ (s : Nat), s < 16 → within2 s (setE e) = true → ∀ c ∈ colsT e, s.testBit (occI c) = true := fun s hs hw c hcc =>
      part_bit s hs (setE e) (setE_lt e) (of_decide_eq_true hw) _ (occI_lt c) (setC_bit _ 0 _ (by omega) (occI_lt c) (.inr ⟨c, hcc, rfl⟩))
    have hkl : ∀ (idx : List Nat) (c : List Int), i ∈ idx → keepL (exQ q.P idx) c r = true → keepE e c r = true := fun idx c hidx hk => by
      unfold keepL at hk
      refine List.all_eq_true.1 hk e ?_
      unfold exQ
      exact List.mem_filterMap.2 ⟨i, hidx, he⟩
    rcases setO_some h with ⟨rfl, h1, h2, rfl⟩ | ⟨a, b, x, y, rfl, rfl, hx, hy, h4, rfl⟩
    · simp only [rowsT] at hr ⊢
      exact hkl _ _ hi (List.mem_filter.1 hr).2
    · have hle1 : x ≤ x ||| y := Nat.left_le_or
      have hle2 : y ≤ x ||| y := Nat.right_le_or
      have hxl := setO_lt _ _ _ hx
      have hyl := setO_lt _ _ _ hy
      have ra := rowsT_ok hq.fits hq.vals hq.occ hq.inT d a x hx (by omega)
      have rb := rowsT_ok hq.fits hq.vals hq.occ hq.inT d b y hy (by omega)
      simp only [rowsT] at hr ⊢
      obtain ⟨hr1, hr2⟩ := List.mem_filter.1 hr
      have hr3 := hr1
      unfold prodR at hr3
      obtain ⟨u, hu, hr4⟩ := List.mem_flatMap.1 hr3
      obtain ⟨v, hv, rfl⟩ := List.mem_map.1 hr4
      have hmem : ∀ (s : Nat), within2 s (setE e) = true → s < 16 → i ∈ someQ q.P (within2 s) := fun s hs _ => by
        unfold someQ at hi ⊢
        exact List.mem_filter.2 ⟨(List.mem_filter.1 hi).1, by rw [he]; exact hs⟩
      cases hwx : within2 x (setE e) with
      | true =>
        have ih := keep_all hq hc d a x hx (by omega) u hu i (hmem x hwx hxl) e he
        rw [← ih]
        refine keepE_congr fun c hcc => look_append (decide_eq_true ((mem_rowsT q d a x hx c).2 ⟨occI c, occI_lt c, hbits x hxl hwx c hcc, hc e heP c hcc⟩)) (ra.rows u hu).1
      | false =>
        cases hwy : within2 y (setE e) with
        | true =>
          have ih := keep_all hq hc d b y hy (by omega) v hv i (hmem y hwy hyl) e he
          rw [← ih]
          refine keepE_congr fun c hcc => ?_
          have hcb := (mem_rowsT q d b y hy c).2 ⟨occI c, occI_lt c, hbits y hyl hwy c hcc, hc e heP c hcc⟩
          refine look_append2 (decide_eq_false fun hca => ?_) (decide_eq_true hcb) (ra.rows u hu).1 (rb.rows v hv).1
          exact bit_and _ hxl _ hyl h4 _ (by have := (ra.cols c hca).2.1; have := (ra.cols c hca).1; omega) ⟨(ra.cols c hca).2.2, (rb.cols c hcb).2.2⟩
        | false =>
          rw [hx, hy, Option.getD_some, Option.getD_some] at hr2
          refine hkl _ _ ?_ hr2
          unfold newQ someQ
          unfold someQ at hi
          refine List.mem_filter.2 ⟨(List.mem_filter.1 hi).1, ?_⟩
          rw [he]
          simp only [Option.any_some, newF, hiw, hwx, hwy, Bool.not_false, Bool.and_self]
theorem bit_lt : ∀ m : Nat, m < 16 → ∀ n : Nat, n < 5 → m < 2 ^ n → ∀ o : Nat, o < 4 → m.testBit o = true → o < n := by decide +kernel
theorem tabAt_in {q : QT} (hq : QOk q) {o : Nat} (ho : o < q.occ.length) : tabAt q.T q.occ o = true := by
  have := hq.inT _ (List.getElem_mem ho)
  unfold tabAt
  rw [List.getD_eq_getElem?_getD, List.getElem?_eq_getElem ho, Option.getD_some, decide_eq_true this.1, decide_eq_true this.2]; rfl
theorem allL_nodup (T : List Def) (hT : mayC T = true) (occ : List Int) (is : Nat → Bool) : ∀ (k i : Nat), i + k ≤ 4 → (allL T occ is i k).Nodup
  | 0, i, _ => by simp [allL]
  | k + 1, i, h => by
    have e : allL T occ is i (k + 1) = (bif is i && tabAt T occ i then colsQ T occ i else []) ++ allL T occ is (i + 1) k := by
      unfold allL
      rw [List.range'_succ, List.flatMap_cons]
    rw [e]
    refine List.nodup_append.2 ⟨?_, allL_nodup T hT occ is k (i + 1) (by omega), fun c hc c' hc' e => ?_⟩
    · cases is i && tabAt T occ i with
      | false => simp
      | true =>
        simp only [cond_true]
        unfold colsQ colsOf
        exact List.pairwise_map.2 ((List.nodup_range' (s := 0) (n := _)).imp fun {a b} h e => h (by omega))
    · subst e
      cases hb : is i && tabAt T occ i with
      | false => rw [hb] at hc; cases hc
      | true =>
        rw [hb] at hc
        simp only [Bool.and_eq_true] at hb
        simp only [cond_true] at hc
        have h1 := (occ_colsQ hT (by omega) hb.2 hc).1
        obtain ⟨o, k1, k2, k3, k4, k5⟩ := (mem_allL T occ is k (i + 1) c).1 hc'
        have h2 := (occ_colsQ hT (by omega) k4 k5).1
        omega
theorem cols_perm {q : QT} (hq : QOk q) {t : Tree} {m : Nat} (h : setO 4 t = some m) (hm : m < 2 ^ q.occ.length) : (colsSet q.T q.occ m).Perm (rowsT q 4 t).1 := by
  have hT : mayC q.T = true := (fits_tab hq.fits).2.1
  have hocc := hq.occ
  refine (List.perm_ext_iff_of_nodup (allL_nodup q.T hT q.occ _ _ _ (by omega)) (rowsT_ok hq.fits hq.vals hq.occ hq.inT 4 t m h hm).nodup).2 fun c => ?_
  rw [mem_allL, mem_rowsT q 4 t m h c]
  constructor
  · rintro ⟨o, h1, h2, h3, h4, h5⟩
    exact ⟨o, by omega, h3, h5⟩
  · rintro ⟨o, h1, h2, h3⟩
    have := bit_lt m (setO_lt _ _ _ h) q.occ.length (by omega) hm o h1 h2
    exact ⟨o, by omega, by omega, h2, tabAt_in hq this, h3⟩
theorem colsOk_may {q : QT} (hq : QOk q) {by_ : Int} {sums out : List Int} {ord : Int} (h : mayQ q.T q.occ q.P by_ sums out ord = true) : ∀ e ∈ q.P, ColsOk q e := by
  intro e he c hc
  have hT : mayC q.T = true := (fits_tab hq.fits).2.1
  unfold mayQ at h
  simp only [Bool.and_eq_true, decide_eq_true_eq, List.all_eq_true] at h
  have h1 := h.1.2 e he
  unfold predQ withinB at h1
  simp only [Bool.and_eq_true, List.all_eq_true] at h1
  have h2 := of_decide_eq_true (h1.2 c hc)
  obtain ⟨o, k1, k2, k3, k4, k5⟩ := (mem_allL _ _ _ _ _ c).1 h2
  have := (occ_colsQ hT (by omega) k4 k5).1
  rw [this]; exact k5
end Go.Cf

namespace Go.Cf
open Go Go.Ab
set_option linter.unusedVariables false
theorem len63 {n : Nat} (h : n ≤ maxLen) : n ≤ 9223372036854775807 := h
theorem ty_api_Val {p : PV} (h : Typed cfg t_api_Val p) : ∃ v : Val, p = v.pv ∧ VOk v := by
  obtain ⟨ps, rfl, hl⟩ := h.struct_inv (fs := [(t_int, 0), (t_int, 1)]) (by kernel_rfl)
  obtain ⟨x, qs, rfl, hx, hl⟩ := typedL_cons hl
  obtain ⟨y, rfl, hy⟩ := typedL1 hl
  obtain ⟨a, rfl, ha⟩ := ty_int hx
  obtain ⟨b, rfl, hb⟩ := ty_int hy
  exact ⟨⟨a, b⟩, rfl, hb⟩
def Row0 (r : List Val) : Prop := r.length ≤ 9223372036854775807 ∧ ROk r
theorem ty_s_api_Val {p : PV} (h : Typed cfg t_s_api_Val p) : ∃ r : List Val, p = rowp r ∧ Row0 r := by
  obtain ⟨xs, rfl, hl, hx⟩ := h.slice_inv (e := t_api_Val) (by kernel_rfl)
  obtain ⟨r, rfl, hr⟩ := list_of (Q := VOk) (f := Val.pv) (xs := xs) (fun x h => ty_api_Val (hx x h))
  exact ⟨r, rfl, len63 (by simpa using hl), hr⟩
def Tab0 (t : List (List Val)) : Prop := t.length ≤ 9223372036854775807 ∧ ∀ r ∈ t, Row0 r
theorem ty_s_s_api_Val {p : PV} (h : Typed cfg t_s_s_api_Val p) : ∃ t : List (List Val), p = tabp t ∧ Tab0 t := by
  obtain ⟨xs, rfl, hl, hx⟩ := h.slice_inv (e := t_s_api_Val) (by kernel_rfl)
  obtain ⟨r, rfl, hr⟩ := list_of (Q := Row0) (f := rowp) (xs := xs) (fun x h => ty_s_api_Val (hx x h))
  exact ⟨r, rfl, len63 (by simpa using hl), hr⟩
theorem ty_s_int {p : PV} (h : Typed cfg t_s_int p) : ∃ l : List Int, p = intsp l ∧ (l.length ≤ 9223372036854775807 ∧ ∀ n ∈ l, I64 n) := by
  obtain ⟨xs, rfl, hl, hx⟩ := h.slice_inv (e := t_int) (by kernel_rfl)
  obtain ⟨r, rfl, hr⟩ := list_of (Q := I64) (f := intp) (xs := xs) (fun x h => ty_int (hx x h))
  exact ⟨r, rfl, len63 (by simpa using hl), hr⟩
theorem valsL_of : ∀ {l : List Ex}, (∀ e ∈ l, e.lens ∧ e.vals) → Ex.lensL l ∧ Ex.valsL l
  | [], _ => ⟨trivial, trivial⟩
  | e :: r, h => by
    obtain ⟨a, b⟩ := valsL_of (l := r) fun x hx => h x (by simp [hx])
    obtain ⟨c, d⟩ := h e (by simp)
    exact ⟨⟨c, a⟩, d, b⟩
theorem ty_api_Expr' : ∀ (n : Nat) (p : PV), SizeOf.sizeOf p < n → Typed cfg t_api_Expr p → ∃ x : Ex, p = x.pv ∧ (x.lens ∧ x.vals)
  | 0, p, h, _ => by omega
  | n + 1, p, h, ht => by
    obtain ⟨ps, rfl, hl⟩ := ht.struct_inv (fs := [(t_int, 0), (t_int, 1), (t_api_Val, 2), (t_s_api_Expr, 4)]) (by kernel_rfl)
    obtain ⟨x, qs, rfl, hx, hl⟩ := typedL_cons hl
    obtain ⟨y, qs, rfl, hy, hl⟩ := typedL_cons hl
    obtain ⟨z, qs, rfl, hz, hl⟩ := typedL_cons hl
    obtain ⟨u, rfl, hu⟩ := typedL1 hl
    obtain ⟨o, rfl, ho⟩ := ty_int hx
    obtain ⟨c, rfl, hc⟩ := ty_int hy
    obtain ⟨v, rfl, hv⟩ := ty_api_Val hz
    obtain ⟨xs, rfl, hlen, hxs⟩ := hu.slice_inv (e := t_api_Expr) (by kernel_rfl)
    obtain ⟨l, rfl, hlo⟩ := list_of (Q := fun e : Ex => e.lens ∧ e.vals) (f := Ex.pv) (xs := xs) (fun x hx => by
      have h1 := List.sizeOf_lt_of_mem hx
      refine ty_api_Expr' n x ?_ (hxs x hx)
      have h2 : SizeOf.sizeOf (PV.slice (cfg.sh t_api_Expr) xs) ≤ SizeOf.sizeOf (PV.agg (([PV.int .i64 o, PV.int .i64 c, v.pv, PV.slice (cfg.sh t_api_Expr) xs] : List PV).flatMap PV.cells)) := by
        have e : ([PV.int .i64 o, PV.int .i64 c, v.pv, PV.slice (cfg.sh t_api_Expr) xs] : List PV).flatMap PV.cells = [PV.int .i64 o, PV.int .i64 c, .int .i64 v.K, .int .i64 v.N, PV.slice (cfg.sh t_api_Expr) xs] := rfl
        rw [e]
        simp only [PV.agg.sizeOf_spec, List.cons.sizeOf_spec, List.nil.sizeOf_spec]
        omega
      have h3 : SizeOf.sizeOf (PV.slice (cfg.sh t_api_Expr) xs) = 1 + SizeOf.sizeOf (cfg.sh t_api_Expr) + SizeOf.sizeOf xs := by simp
      omega)
    obtain ⟨a, b⟩ := valsL_of hlo
    refine ⟨.mk o c v l, ?_, ⟨len63 (by simpa using hlen), a⟩, hv, b⟩
    rw [Ex.pv_mk]
    rfl
theorem ty_api_Expr {p : PV} (h : Typed cfg t_api_Expr p) : ∃ x : Ex, p = x.pv ∧ (x.lens ∧ x.vals) := ty_api_Expr' _ p (Nat.lt_succ_self _) h
theorem ty_s_api_Expr {p : PV} (h : Typed cfg t_s_api_Expr p) : ∃ l : List Ex, p = exsp l ∧ (l.length ≤ 9223372036854775807 ∧ ∀ e ∈ l, e.lens ∧ e.vals) := by
  obtain ⟨xs, rfl, hl, hx⟩ := h.slice_inv (e := t_api_Expr) (by kernel_rfl)
  obtain ⟨r, rfl, hr⟩ := list_of (Q := fun e : Ex => e.lens ∧ e.vals) (f := Ex.pv) (xs := xs) (fun x h => ty_api_Expr (hx x h))
  exact ⟨r, rfl, len63 (by simpa using hl), hr⟩
theorem ty_api_Def {p : PV} (h : Typed cfg t_api_Def p) : ∃ v : Def, p = v.pv ∧ True := by
  obtain ⟨ps, rfl, hl⟩ := h.struct_inv (fs := [(t_int, 0), (t_int, 1)]) (by kernel_rfl)
  obtain ⟨x, qs, rfl, hx, hl⟩ := typedL_cons hl
  obtain ⟨y, rfl, hy⟩ := typedL1 hl
  obtain ⟨a, rfl, ha⟩ := ty_int hx
  obtain ⟨b, rfl, hb⟩ := ty_int hy
  exact ⟨⟨a, b⟩, rfl, trivial⟩
theorem ty_api_Cat {p : PV} (h : Typed cfg t_api_Cat p) : ∃ T : List Def, p = catp T ∧ T.length ≤ 9223372036854775807 := by
  obtain ⟨ps, rfl, hl⟩ := h.struct_inv (fs := [(t_s_api_Def, 0)]) (by kernel_rfl)
  obtain ⟨y, rfl, hy⟩ := typedL1 hl
  obtain ⟨xs, rfl, hlen, hx⟩ := hy.slice_inv (e := t_api_Def) (by kernel_rfl)
  obtain ⟨T, rfl, _⟩ := list_of (Q := fun _ => True) (f := Def.pv) (xs := xs) (fun x h => ty_api_Def (hx x h))
  exact ⟨T, rfl, len63 (by simpa using hlen)⟩
theorem ty_api_Data {p : PV} (h : Typed cfg t_api_Data p) : ∃ D : List (List (List Val)), p = datap D ∧ DOk D ∧ ∀ t ∈ D, ∀ r ∈ t, ROk r := by
  obtain ⟨ps, rfl, hl⟩ := h.struct_inv (fs := [(t_s_s_s_api_Val, 0)]) (by kernel_rfl)
  obtain ⟨y, rfl, hy⟩ := typedL1 hl
  obtain ⟨xs, rfl, hlen, hx⟩ := hy.slice_inv (e := t_s_s_api_Val) (by kernel_rfl)
  obtain ⟨D, rfl, hD⟩ := list_of (Q := Tab0) (f := tabp) (xs := xs) (fun x h => ty_s_s_api_Val (hx x h))
  exact ⟨D, rfl, ⟨len63 (by simpa using hlen), fun t ht => (hD t ht).1, fun t ht r hr => ((hD t ht).2 r hr).1⟩, fun t ht r hr => ((hD t ht).2 r hr).2⟩
structure QIn where
  (occ : List Int) (P : List Ex) (by_ : Int) (sums out : List Int) (ord : Int)
def QIn.pv (q : QIn) : PV := queryp q.occ (q.P.map Ex.pv) q.by_ q.sums q.out q.ord
def Ints0 (l : List Int) : Prop := l.length ≤ 9223372036854775807 ∧ ∀ n ∈ l, I64 n
structure QIn.Ok (q : QIn) : Prop where
  occ : Ints0 q.occ
  P : q.P.length ≤ 9223372036854775807 ∧ ∀ e ∈ q.P, e.lens ∧ e.vals
  by_ : I64 q.by_
  sums : Ints0 q.sums
  out : Ints0 q.out
  ord : I64 q.ord
theorem ty_api_Query {p : PV} (h : Typed cfg t_api_Query p) : ∃ q : QIn, p = q.pv ∧ q.Ok := by
  obtain ⟨ps, rfl, hl⟩ := h.struct_inv (fs := [(t_s_int, 0), (t_s_api_Expr, 1), (t_int, 2), (t_s_int, 3), (t_s_int, 4), (t_int, 5)]) (by kernel_rfl)
  obtain ⟨x, qs, rfl, hx, hl⟩ := typedL_cons hl
  obtain ⟨y, qs, rfl, hy, hl⟩ := typedL_cons hl
  obtain ⟨z, qs, rfl, hz, hl⟩ := typedL_cons hl
  obtain ⟨u, qs, rfl, hu, hl⟩ := typedL_cons hl
  obtain ⟨v, qs, rfl, hv, hl⟩ := typedL_cons hl
  obtain ⟨w, rfl, hw⟩ := typedL1 hl
  obtain ⟨a, rfl, ha⟩ := ty_s_int hx
  obtain ⟨ps, rfl, hpl, hp⟩ := ty_s_api_Expr hy
  obtain ⟨b, rfl, hb⟩ := ty_int hz
  obtain ⟨s, rfl, hs⟩ := ty_s_int hu
  obtain ⟨o, rfl, ho⟩ := ty_s_int hv
  obtain ⟨d, rfl, hd⟩ := ty_int hw
  exact ⟨⟨a, ps, b, s, o, d⟩, rfl, ha, ⟨hpl, hp⟩, hb, hs, ho, hd⟩
theorem ty_api_Tree' : ∀ (n : Nat) (p : PV), SizeOf.sizeOf p < n → Typed cfg t_api_Tree p → ∃ x : Tree, p = x.pv ∧ x.Ok
  | 0, p, h, _ => by omega
  | n + 1, p, h, ht => by
    obtain ⟨ps, rfl, hl⟩ := ht.struct_inv (fs := [(t_int, 0), (t_s_api_Tree, 1)]) (by kernel_rfl)
    obtain ⟨x, qs, rfl, hx, hl⟩ := typedL_cons hl
    obtain ⟨y, rfl, hy⟩ := typedL1 hl
    obtain ⟨o, rfl, ho⟩ := ty_int hx
    obtain ⟨xs, rfl, hlen, hxs⟩ := hy.slice_inv (e := t_api_Tree) (by kernel_rfl)
    obtain ⟨l, rfl, hlo⟩ := list_of (Q := Tree.Ok) (f := Tree.pv) (xs := xs) (fun x hx => by
      have h1 := List.sizeOf_lt_of_mem hx
      refine ty_api_Tree' n x ?_ (hxs x hx)
      have h2 : SizeOf.sizeOf (PV.agg (([PV.int .i64 o, PV.slice (cfg.sh t_api_Tree) xs] : List PV).flatMap PV.cells)) = 1 + (1 + SizeOf.sizeOf (PV.int .i64 o) + (1 + (1 + SizeOf.sizeOf (cfg.sh t_api_Tree) + SizeOf.sizeOf xs) + 1)) := by
        simp [PV.cells, List.flatMap_cons]
      omega)
    refine ⟨.mk o l, ?_, .mk _ _ ho (by simpa using hlen) hlo⟩
    rw [Tree.pv_mk]
    rfl
theorem ty_api_Tree {p : PV} (h : Typed cfg t_api_Tree p) : ∃ x : Tree, p = x.pv ∧ x.Ok := ty_api_Tree' _ p (Nat.lt_succ_self _) h
end Go.Cf

namespace Go.Cf
open Go Go.Ab
theorem w_awake7 : wc W n_roadbooklaw07_awake [] = some (.bool true) := by rw [W_eq]; exact wc_le (evF_evw 60) (by kernel_rfl)
end Go.Cf

namespace Go.Cf
open Go Go.Ab
set_option linter.unusedVariables false
set_option linter.unusedSimpArgs false
theorem few3 (D : List (List (List Val))) (i : Nat) (hi : i < D.length) (hD : DOk D) (next : ∀ b, ∃ r, L_roadbooklaw04_few_1 (D.map tabp) b ((i : Int) + 1) = some (.bool r)) : ∀ (k j : Nat) (b : Bool), j + k = D[i].length → ∃ r, L_roadbooklaw04_few_3 (D.map tabp) b (i : Int) (j : Int) = some (.bool r)
  | 0, j, b, h => by
    have := hD.len
    obtain ⟨r, hr⟩ := next b
    refine ⟨r, ?_⟩
    rw [L_roadbooklaw04_few_3_eq, show j = D[i].length by omega]
    simp only [nat_le, cond_true, Int.toNat_natCast, List.getElem?_map, List.getElem?_eq_getElem hi, Option.map_some, Option.bind_some, c_tabp, List.length_map, ge_len, cond_false]
    rw [wrap64 (by omega) (by omega)]
    exact hr
  | k + 1, j, b, h => by
    have := hD.len
    have hj : j < D[i].length := by omega
    have := hD.tab _ (List.getElem_mem hi)
    rw [L_roadbooklaw04_few_3_eq]
    simp only [nat_le, cond_true, Int.toNat_natCast, List.getElem?_map, List.getElem?_eq_getElem hi, Option.map_some, Option.bind_some, c_tabp, List.length_map, lt_len hj]
    cases b with
    | true =>
      simp only [cond_true, J_roadbooklaw04_few_4_eq, nat_le, Int.toNat_natCast, List.getElem?_map, List.getElem?_eq_getElem hi, List.getElem?_eq_getElem hj, Option.map_some, Option.bind_some, c_tabp, c_rowp]
      rw [wrap_succ (by omega)]
      exact few3 D i hi hD next k (j + 1) _ (by omega)
    | false =>
      simp only [cond_false]
      rw [wrap64 (by omega) (by omega)]
      exact next false
theorem few1 (D : List (List (List Val))) (hD : DOk D) : ∀ (k i : Nat) (b : Bool), i + k = D.length → ∃ r, L_roadbooklaw04_few_1 (D.map tabp) b (i : Int) = some (.bool r)
  | 0, i, b, h => by
    rw [L_roadbooklaw04_few_1_eq, show i = D.length by omega]
    exact ⟨b, by simp⟩
  | k + 1, i, b, h => by
    have hi : i < D.length := by omega
    rw [L_roadbooklaw04_few_1_eq]
    simp only [List.length_map, lt_len hi, cond_true]
    cases b with
    | true =>
      simp only [cond_true, J_roadbooklaw04_few_2_eq, nat_le, Int.toNat_natCast, List.getElem?_map, List.getElem?_eq_getElem hi, Option.map_some, Option.bind_some, c_tabp]
      exact few3 D i hi hD (fun b => few1 D hD k (i + 1) b (by omega)) D[i].length 0 _ (by omega)
    | false => exact ⟨false, rfl⟩
theorem w_few04 (D : List (List (List Val))) (hD : DOk D) : ∃ r, wc W n_roadbooklaw04_few [datap D] = some (.bool r) := by
  have h := e_roadbooklaw04_few (D.map tabp)
  rw [datap_fold] at h
  rw [h]
  exact few1 D hD D.length 0 _ (by omega)
theorem few5 (occ : List PV) (P : List Ex) (by_ : Int) (sums out : List PV) (ord : Int) (hP : P.length ≤ 9223372036854775807) (he : ∀ e ∈ P, e.lens) : ∀ (k i : Nat) (b : Bool), i + k = P.length →
    L_roadbooklaw05_few_2 occ (P.map Ex.pv) by_ sums out ord b (i : Int) = some (.bool (b && (P.drop i).all fun e => decide (e.sz ≤ 60)))
  | 0, i, b, h => by
    rw [L_roadbooklaw05_few_2_eq, show i = P.length by omega]
    simp
  | k + 1, i, b, h => by
    have hi : i < P.length := by omega
    rw [L_roadbooklaw05_few_2_eq]
    simp only [List.length_map, lt_len hi, cond_true]
    cases b with
    | false => rfl
    | true =>
      simp only [cond_true, J_roadbooklaw05_few_3_eq, nat_le, Int.toNat_natCast, List.getElem?_map, List.getElem?_eq_getElem hi, Option.map_some, Option.bind_some, Ex.c_mk, Ex.fold, w_FewR _ (he _ (List.getElem_mem hi)), c_b_mk]
      rw [wrap_succ (by omega), few5 occ P by_ sums out ord hP he k (i + 1) _ (by omega), List.drop_eq_getElem_cons hi, List.all_cons]
      rfl
theorem w_few05 (T : List Def) (q : QIn) (hq : q.Ok) : ∃ b, wc W n_roadbooklaw05_few [catp T, q.pv] = some (.bool b) ∧ (b = true → q.P.length ≤ 8 ∧ q.sums.length ≤ 20 ∧ q.out.length ≤ 20 ∧ ∀ e ∈ q.P, e.sz ≤ 60) := by
  obtain ⟨occ, P, by_, sums, out, ord⟩ := q
  have h := e_roadbooklaw05_few (T.map Def.pv) (occ.map intp) (P.map Ex.pv) by_ (sums.map intp) (out.map intp) ord
  simp only [catp_fold, intsp_fold, query_fold, List.length_map] at h
  have h5 := few5 (occ.map intp) P by_ (sums.map intp) (out.map intp) ord hq.P.1 (fun e he => (hq.P.2 e he).1) P.length 0
  have hj : ∀ b, J_roadbooklaw05_few_1 (occ.map intp) (P.map Ex.pv) by_ (sums.map intp) (out.map intp) ord b = some (.bool (b && P.all fun e => decide (e.sz ≤ 60))) := fun b => by
    rw [J_roadbooklaw05_few_1_eq]
    have := h5 b (by omega)
    simpa using this
  show ∃ b, wc W n_roadbooklaw05_few [catp T, queryp occ (P.map Ex.pv) by_ sums out ord] = some (.bool b) ∧ _
  rw [h]
  simp only [hj]
  rw [show decide (((P.length : Nat) : Int) ≤ 8) = decide (P.length ≤ 8) from decide_eq_decide.2 (by omega), show decide (((sums.length : Nat) : Int) ≤ 20) = decide (sums.length ≤ 20) from decide_eq_decide.2 (by omega), show decide (((out.length : Nat) : Int) ≤ 20) = decide (out.length ≤ 20) from decide_eq_decide.2 (by omega)]
  refine ⟨decide (((T.length : Nat) : Int) ≤ 10) && (decide (((occ.length : Nat) : Int) ≤ 20) && (decide (P.length ≤ 8) && (decide (sums.length ≤ 20) && (decide (out.length ≤ 20) && P.all fun e => decide (e.sz ≤ 60))))), ?_, fun hb => ?_⟩
  · cases decide (((T.length : Nat) : Int) ≤ 10) <;> cases decide (((occ.length : Nat) : Int) ≤ 20) <;> cases decide (P.length ≤ 8) <;> cases decide (sums.length ≤ 20) <;> rfl
  · simp only [Bool.and_eq_true, decide_eq_true_eq, List.all_eq_true] at hb
    exact ⟨hb.2.2.1, hb.2.2.2.1, hb.2.2.2.2.1, hb.2.2.2.2.2⟩
theorem w_few07 (T : List Def) (D : List (List (List Val))) (hD : DOk D) (q : QIn) (hq : q.Ok) : ∃ b, wc W n_roadbooklaw07_few [catp T, datap D, q.pv] = some (.bool b) ∧ (b = true → q.P.length ≤ 8 ∧ q.sums.length ≤ 20 ∧ q.out.length ≤ 20 ∧ ∀ e ∈ q.P, e.sz ≤ 60) := by
  obtain ⟨b, h1, h2⟩ := w_few05 T q hq
  obtain ⟨r, h3⟩ := w_few04 D hD
  obtain ⟨occ, P, by_, sums, out, ord⟩ := q
  have e1 := e_roadbooklaw07_few (T.map Def.pv) (D.map tabp) (occ.map intp) (P.map Ex.pv) by_ (sums.map intp) (out.map intp) ord
  have e2 := e_roadbooklaw05_Far (T.map Def.pv) (occ.map intp) (P.map Ex.pv) by_ (sums.map intp) (out.map intp) ord
  have e3 := e_roadbooklaw04_Far (D.map tabp)
  simp only [catp_fold, datap_fold, intsp_fold, query_fold] at e1 e2 e3
  have h1' : wc W n_roadbooklaw05_few [catp T, queryp occ (P.map Ex.pv) by_ sums out ord] = some (.bool b) := h1
  rw [h1'] at e2
  rw [h3] at e3
  simp only [Option.bind_some, c_b_mk] at e2 e3
  show ∃ b, wc W n_roadbooklaw07_few [catp T, datap D, queryp occ (P.map Ex.pv) by_ sums out ord] = some (.bool b) ∧ _
  rw [e1, e2, e3]
  cases b with
  | false => exact ⟨false, by cases r <;> rfl, fun h => by cases h⟩
  | true => cases r with
    | false => exact ⟨false, rfl, fun h => by cases h⟩
    | true => exact ⟨true, rfl, fun _ => h2 rfl⟩
theorem light2 (D : List (List (List Val))) (n : Int) (hD : D.length ≤ 9223372036854775807) : ∀ (k i : Nat), i + k = D.length → ∃ z, L_roadbooklaw07_Light_2 (D.map tabp) n (i : Int) = some (.int .i64 z)
  | 0, i, h => ⟨0, by rw [L_roadbooklaw07_Light_2_eq, show i = D.length by omega]; simp⟩
  | k + 1, i, h => by
    have hi : i < D.length := by omega
    rw [L_roadbooklaw07_Light_2_eq]
    simp only [List.length_map, lt_len hi, nat_le, cond_true, Int.toNat_natCast, List.getElem?_map, List.getElem?_eq_getElem hi, Option.map_some, Option.bind_some, c_tabp]
    rw [wrap_succ (by omega)]
    cases decide (((D[i].length : Nat) : Int) > n) with
    | true => exact ⟨1, rfl⟩
    | false => exact light2 D n hD k (i + 1) (by omega)
theorem w_Light (D : List (List (List Val))) (hD : DOk D) (occ : List Int) (P : List PV) (by_ : Int) (sums out : List Int) (ord : Int) : ∃ z, wc W n_roadbooklaw07_Light [datap D, queryp occ P by_ sums out ord] = some (.int .i64 z) := by
  have h := e_roadbooklaw07_Light (D.map tabp) (occ.map intp) P by_ (sums.map intp) (out.map intp) ord
  simp only [datap_fold, intsp_fold, query_fold] at h
  rw [h]
  have hl : D.length ≤ 9223372036854775807 := hD.1
  have j : ∀ n, ∃ z, J_roadbooklaw07_Light_1 (D.map tabp) n = some (.int .i64 z) := fun n => by
    rw [J_roadbooklaw07_Light_1_eq]; exact light2 D n hl D.length 0 (by omega)
  cases decide ((((occ.map intp).length : Nat) : Int) > 3) with
  | true => exact j 3
  | false => exact j 5
theorem cols_loop (occ : List Int) (P : List Ex) (by_ : Int) (sums out : List Int) (ord : Int) (cols : List PV) (idx : List Nat) (hi : ∀ i ∈ idx, i < P.length) (hl : idx.length ≤ 1000000) (b : List PV) (r : List PV) : ∀ (k j : Nat) (acc : List Ex), j + k = idx.length → acc.length ≤ j →
    L_roadbooklaw07_MeansCols_2 (occ.map intp) (P.map Ex.pv) by_ (sums.map intp) (out.map intp) ord cols ((idx.map fun n : Nat => (n : Int)).map intp) (j : Int) b r (acc.map Ex.pv) =
    L_roadbooklaw07_MeansCols_2 (occ.map intp) (P.map Ex.pv) by_ (sums.map intp) (out.map intp) ord cols ((idx.map fun n : Nat => (n : Int)).map intp) (idx.length : Int) b r ((acc ++ exQ P (idx.drop j)).map Ex.pv)
  | 0, j, acc, h, ha => by
    rw [show j = idx.length by omega]
    simp [exQ]
  | k + 1, j, acc, h, ha => by
    have hj : j < idx.length := by omega
    have hp := hi _ (List.getElem_mem hj)
    have e : exQ P (idx.drop j) = P[idx[j]] :: exQ P (idx.drop (j + 1)) := by
      rw [List.drop_eq_getElem_cons hj]
      unfold exQ
      rw [List.filterMap_cons, List.getElem?_eq_getElem hp]
    rw [e]
    conv => lhs; rw [L_roadbooklaw07_MeansCols_2_eq]
    simp only [List.length_map, lt_len hj, nat_le, cond_true, Int.toNat_natCast, List.getElem?_map, List.getElem?_eq_getElem hj, Option.map_some, Option.bind_some, c_intp]
    rw [decide_eq_false (show ¬ ((idx[j] : Nat) : Int) < 0 by omega), decide_eq_false (show ¬ ((idx[j] : Nat) : Int) ≥ ((P.length : Nat) : Int) by omega)]
    simp only [cond_false, J_roadbooklaw07_MeansCols_3_eq, nat_le, cond_true, Int.toNat_natCast, List.getElem?_map, List.getElem?_eq_getElem hj, List.getElem?_eq_getElem hp, Option.map_some, Option.bind_some, c_intp, Ex.c_mk, Ex.fold, List.length_map, Bool.true_and, decide_eq_true (show acc.length + 1 ≤ 4294967296 by omega)]
    rw [wrap_succ (by omega)]
    have := cols_loop occ P by_ sums out ord cols idx hi hl b r k (j + 1) (acc ++ [P[idx[j]]]) (by omega) (by simp; omega)
    simp only [List.map_append, List.map_cons, List.map_nil] at this
    refine this.trans ?_
    simp only [List.map_append, List.map_cons, List.append_assoc, List.cons_append, List.nil_append]
theorem law_MeansCols (T : List Def) (D : List (List (List Val))) (q : QIn) (t : Tree) (hT : T.length ≤ 9223372036854775807) (hD : DOk D ∧ ∀ t ∈ D, ∀ r ∈ t, ROk r) (hq : q.Ok) (ht : t.Ok) :
    wc W n_roadbooklaw07_MeansCols [catp T, datap D, q.pv, t.pv] = some (.bool true) := by
  obtain ⟨b7, h7, h7b⟩ := w_few07 T D hD.1 q hq
  obtain ⟨occ, P, by_, sums, out, ord⟩ := q
  have h7' : wc W n_roadbooklaw07_few [catp T, datap D, queryp occ (P.map Ex.pv) by_ sums out ord] = some (.bool b7) := h7
  obtain ⟨z, hz⟩ := w_Light D hD.1 occ (P.map Ex.pv) by_ sums out ord
  obtain ⟨n, hn⟩ := wr_Size t 100 ht
  have h := e_roadbooklaw07_MeansCols (T.map Def.pv) (D.map tabp) (occ.map intp) (P.map Ex.pv) by_ (sums.map intp) (out.map intp) ord t.occ (t.l.map Tree.pv)
  simp only [Tree.fold, catp_fold, datap_fold, intsp_fold, query_fold] at h
  show wc W n_roadbooklaw07_MeansCols [catp T, datap D, queryp occ (P.map Ex.pv) by_ sums out ord, t.pv] = _
  rw [h, w_awake7, h7', hz, hn]
  simp only [Option.bind_some, c_b_mk, c_i64_mk, Bool.not_true, cond_false]
  cases b7 with
  | false => rfl
  | true =>
  obtain ⟨p8, s20, o20, sz60⟩ := h7b rfl
  simp only [Bool.not_true, cond_false] at p8 s20 o20 sz60 ⊢
  cases z != 0 with
  | true => rfl
  | false =>
  simp only [cond_false]
  cases decide (n > 100) with
  | true => rfl
  | false =>
  simp only [cond_false, J_roadbooklaw07_MeansCols_1_eq, Tree.fold, catp_fold, datap_fold, intsp_fold, query_fold]
  have hok : ∀ e ∈ P, e.ok ∧ e.vals := fun e he => ⟨Ex.ok_of (by have := sz60 e he; omega), (hq.P.2 e he).2⟩
  have hR := w_Rows ⟨T, D, occ, P⟩ by_ sums out ord t hT hq.occ.1 (by simp only; omega) hok (by omega) (by omega) hD.1 hD.2
  simp only at hR
  rw [hR]
  simp only [Option.bind_some]
  unfold rowsQ
  cases hs : setO 4 t with
  | none => rfl
  | some m =>
    simp only
    cases hc : mayQ T occ P by_ sums out ord && fits T D && decide (m < 2 ^ occ.length) with
    | false => rfl
    | true =>
      simp only [Bool.and_eq_true, decide_eq_true_eq] at hc
      obtain ⟨⟨hc1, hc2⟩, hm⟩ := hc
      have hparts := hc1
      unfold mayQ at hparts
      simp only [Bool.and_eq_true, decide_eq_true_eq, List.all_eq_true] at hparts
      have Q : QOk ⟨T, D, occ, P⟩ := ⟨hc2, hD.2, hparts.1.1.1.1.2, hparts.1.1.1.2, hT, hD.1, by simp only; omega, hok⟩
      have hm16 := setO_lt _ _ _ hs
      have hrt := rowsT_ok Q.fits Q.vals Q.occ Q.inT 4 t m hs hm
      have hmay := hrt.may hm16
      obtain ⟨m1, m2, m3⟩ := mayB_row hmay
      have hset := w_Set t
      rw [hs, Option.getD_some] at hset
      have hcols := w_query_Cols T occ P by_ sums out ord m hm16 hT hq.occ.1 (by omega) (fun e he => (hok e he).1) (by omega) (by omega) hc1
      have hown := w_Own occ P by_ sums out ord m hm16 (by omega) (fun e he => (hok e he).1)
      have hperm := cols_perm Q hs hm
      have hkeep := keep_all Q (colsOk_may Q hc1) 4 t m hs hm
      have hidx := someQ_len P (within2 m)
      generalize hB : rowsT ⟨T, D, occ, P⟩ 4 t = B at *
      obtain ⟨bc, br⟩ := B
      simp only at m1 m2 m3 hmay hperm hkeep hrt
      have hmb := w_bag_May bc br (by omega) (by omega) (fun x hx => by have := (m3 x hx).1; omega)
      have hpk := w_Pick bc br (colsSet T occ m) (by omega) (by omega) (fun x hx => by have := (m3 x hx).1; omega) (by rw [hperm.length_eq]; omega)
      have hpb : pickB bc br (colsSet T occ m) = some (colsSet T occ m, br.map (pickR bc (colsSet T occ m))) := by
        unfold pickB
        have h1 : mayB (colsSet T occ m) [] = true := by
          unfold mayB
          have h2 : colsB (colsSet T occ m) = true := (colsB_iff _).2 ⟨fun c hc => ⟨(hrt.cols c (hperm.mem_iff.1 hc)).1, (hrt.cols c (hperm.mem_iff.1 hc)).2.1⟩, hperm.nodup_iff.2 hrt.nodup⟩
          rw [h2]; rfl
        have h3 : (colsSet T occ m).all (inC bc) = true := List.all_eq_true.2 fun c hc => decide_eq_true (hperm.mem_iff.1 hc)
        rw [hmay, h1, h3]; rfl
      rw [hpb] at hpk
      have hks := keep_of Q (someQ P (within2 m)) (by omega) (m := 0) (b := ([], [])) bc br m1 m2 (fun x hx => ⟨by rw [(m3 x hx).1]; exact m1, (hrt.rows x hx).2.2⟩)
      simp only at hks
      have hfl : br.filter (keepL (exQ P (someQ P (within2 m))) bc) = br := List.filter_eq_self.2 fun r hr => by
        unfold keepL
        refine List.all_eq_true.2 fun e he => ?_
        unfold exQ at he
        obtain ⟨i, hi, hie⟩ := List.mem_filterMap.1 he
        exact hkeep r hr i hi e hie
      rw [hfl] at hks
      have hlike := w_Like bc br bc br (by omega) (by omega) (fun x hx => by have := (m3 x hx).1; omega)
      have hloop := cols_loop occ P by_ sums out ord ((colsSet T occ m).map intp) (someQ P (within2 m)) (fun i hi => someQ_lt hi) (by omega) (bc.map intp) (br.map rowp) (someQ P (within2 m)).length 0 [] (by omega) (by simp)
      simp only [cond_true, bagR, asTup_mk, Option.bind_some, List.getElem?_cons_zero, List.getElem?_cons_succ, c_bagp, c_b_mk, Bool.not_true, cond_false, hset, c_i64_mk, hcols, hown, c_intsp]
      refine hloop.trans ?_
      rw [L_roadbooklaw07_MeansCols_2_eq]
      simp only [List.length_map, ge_len, cond_false, List.drop_zero, List.nil_append, intsp_fold, tabp_fold, bagp_fold, hpk, bagR, asTup_mk, Option.bind_some, List.getElem?_cons_zero, List.getElem?_cons_succ, c_bagp, c_b_mk, hmb, hmay, cond_true, hperm.length_eq, beq_self_eq_true, exsp_fold, hks, hlike, decide_true, Bool.and_self]
end Go.Cf
