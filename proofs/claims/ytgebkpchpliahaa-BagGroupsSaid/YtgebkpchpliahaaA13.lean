/- Part 14 of the proof: an abstract machine that runs the program's code over plain values, its soundness, and what the functions tell of plain values. Conditions: those in each theorem. -/
import Derived.Test.YtgebkpchpliahaaA12
set_option linter.unusedSectionVars false
namespace Go.Cf
open Go Go.Ab
set_option linter.unusedVariables false
set_option linter.unusedSimpArgs false
def keyR (at_ : Int) (r : List Val) : Int × Int := bif decide (at_ < 0) then (0, 0) else match r[at_.toNat]? with | some v => bif mayV v then (v.K, v.N) else (2, 0) | none => (0, 0)
theorem w_of (r : List Val) (at_ : Int) : wc W n_bag_of [rowp r, .int .i64 at_] = some (.agg [.int .i64 (keyR at_ r).1, .int .i64 (keyR at_ r).2]) := by
  have h := e_bag_of (r.map Val.pv) at_
  rw [rowp_fold] at h
  rw [h, List.length_map]
  unfold keyR
  by_cases h0 : at_ < 0
  · rw [decide_eq_true h0]; rfl
  · rw [decide_eq_false h0]
    simp only [cond_false]
    by_cases h1 : at_ ≥ (r.length : Int)
    · rw [decide_eq_true h1, List.getElem?_eq_none (by omega)]; rfl
    · have hlt : at_.toNat < r.length := by omega
      rw [decide_eq_false h1]
      simp only [cond_false, J_bag_of_1_eq, decide_eq_true (show (0 : Int) ≤ at_ by omega), cond_true, List.getElem?_map, List.getElem?_eq_getElem hlt, Option.map_some, Option.bind_some, Val.c_mk, Val.fold, w_val_May, c_b_mk, J_bag_of_2_eq]
      cases mayV r[at_.toNat] <;> rfl
def cmpB (a b : Int × Int) : Int := if a.1 < b.1 then -1 else if a.1 > b.1 then 1 else if a.2 < b.2 then -1 else if a.2 > b.2 then 1 else 0
theorem w_cmpI (a b : Int) : wc W n_cmp_Compare_int [.int .i64 a, .int .i64 b] = some (.int .i64 (if a < b then -1 else if a > b then 1 else 0)) := by
  rw [e_cmp_Compare_int, e_cmp_isNaN_int, e_cmp_isNaN_int, bne_f rfl, bne_f rfl]
  simp only [Option.bind_some, c_b_mk, cond_false]
  by_cases h : a < b
  · rw [decide_eq_true h, if_pos h]; rfl
  · rw [decide_eq_false h, if_neg h]
    by_cases h' : a > b
    · rw [decide_eq_true h', if_pos h']; rfl
    · rw [decide_eq_false h', if_neg h']; rfl
theorem w_compare (a b : Int × Int) : wc W n_bag_compare [.agg [.int .i64 a.1, .int .i64 a.2], .agg [.int .i64 b.1, .int .i64 b.2]] = some (.int .i64 (cmpB a b)) := by
  obtain ⟨a1, a2⟩ := a
  obtain ⟨b1, b2⟩ := b
  rw [e_bag_compare, e_slices_Compare_int_int]
  have z1 : ([PV.int .i64 a1, PV.int .i64 a2] : List PV).length = 2 := rfl
  have w1 : IntKind.wrap .i64 ((0 : Int) + 1) = 1 := by decide
  have w2 : IntKind.wrap .i64 ((1 : Int) + 1) = 2 := by decide
  unfold cmpB
  have f1 : decide ((0 : Int) < ((0 + 1 + 1 : Nat) : Int)) = true := rfl
  have f2 : decide ((1 : Int) < ((0 + 1 + 1 : Nat) : Int)) = true := rfl
  have f3 : decide ((2 : Int) < ((0 + 1 + 1 : Nat) : Int)) = false := rfl
  have f4 : decide ((0 : Int) ≤ 0) = true := rfl
  have f5 : decide ((0 : Int) ≤ 1) = true := rfl
  have f6 : decide ((0 : Int) ≥ ((0 + 1 + 1 : Nat) : Int)) = false := rfl
  have f7 : decide ((1 : Int) ≥ ((0 + 1 + 1 : Nat) : Int)) = false := rfl
  have f8 : decide (((0 + 1 + 1 : Nat) : Int) < ((0 + 1 + 1 : Nat) : Int)) = false := rfl
  have f9 : Int.toNat 0 = 0 := rfl
  have f10 : Int.toNat 1 = 1 := rfl
  rw [L_slices_Compare_int_int_1_eq]
  simp only [List.length_cons, List.length_nil, w1, w2, c_i64_mk, List.getElem?_cons_zero, List.getElem?_cons_succ, Option.bind_some, w_cmpI, c_b_mk, cond_true, cond_false, f1, f2, f3, f4, f5, f6, f7, f8, f9, f10]
  rw [L_slices_Compare_int_int_1_eq]
  simp only [List.length_cons, List.length_nil, w1, w2, c_i64_mk, List.getElem?_cons_zero, List.getElem?_cons_succ, Option.bind_some, w_cmpI, c_b_mk, cond_true, cond_false, f1, f2, f3, f4, f5, f6, f7, f8, f9, f10]
  rw [L_slices_Compare_int_int_1_eq]
  simp only [List.length_cons, List.length_nil, w1, w2, c_i64_mk, List.getElem?_cons_zero, List.getElem?_cons_succ, Option.bind_some, w_cmpI, c_b_mk, cond_true, cond_false, f1, f2, f3, f4, f5, f6, f7, f8, f9, f10]
  rcases Int.lt_trichotomy a1 b1 with h | h | h
  · rw [show (a1 == b1) = false by rw [beq_eq_false_iff_ne]; omega]; simp only [if_pos h]; rfl
  · subst h
    simp only [beq_self_eq_true, gt_iff_lt, Int.lt_irrefl, if_false, cond_true]
    rcases Int.lt_trichotomy a2 b2 with h | h | h
    · rw [show (a2 == b2) = false by rw [beq_eq_false_iff_ne]; omega, if_pos h]; rfl
    · subst h; simp only [beq_self_eq_true, Int.lt_irrefl, if_false]; rfl
    · rw [show (a2 == b2) = false by rw [beq_eq_false_iff_ne]; omega, if_neg (show ¬ a2 < b2 by omega), if_pos h]; rfl
  · rw [show (a1 == b1) = false by rw [beq_eq_false_iff_ne]; omega]; simp only [gt_iff_lt, if_neg (show ¬ a1 < b1 by omega), if_pos h]; rfl
def leR (at_ : Int) (r s : List Val) : Bool := !decide (cmpB (keyR at_ s) (keyR at_ r) < 0)
theorem cmpB_lt (a b : Int × Int) : cmpB a b < 0 ↔ a.1 < b.1 ∨ (a.1 = b.1 ∧ a.2 < b.2) := by
  unfold cmpB
  split
  · constructor <;> intro <;> omega
  · split
    · constructor <;> intro <;> omega
    · split
      · constructor <;> intro <;> omega
      · split <;> constructor <;> intro <;> omega
theorem leR_iff (at_ : Int) (r s : List Val) : leR at_ r s = true ↔ (keyR at_ r).1 < (keyR at_ s).1 ∨ ((keyR at_ r).1 = (keyR at_ s).1 ∧ (keyR at_ r).2 ≤ (keyR at_ s).2) := by
  unfold leR
  rw [Bool.not_eq_true', decide_eq_false_iff_not, cmpB_lt]
  constructor <;> intro <;> omega
theorem leR_total (at_ : Int) (r s : List Val) : leR at_ r s = true ∨ leR at_ s r = true := by
  rw [leR_iff, leR_iff]; omega
theorem leR_trans (at_ : Int) (r s t : List Val) (h : leR at_ r s = true) (k : leR at_ s t = true) : leR at_ r t = true := by
  rw [leR_iff] at *; omega
def varA (at_ : Int) : Ob := .var false 0 (.pv (.int .i64 at_))
theorem w_Sort2 (r s : List Val) (at_ : Int) : W n_bag_Sort_2 false [.pv (rowp r), .pv (rowp s), .own 0 0] [.var false 0 (.pv (.int .i64 at_))] = some (.pv (.int .i64 (cmpB (keyR at_ r) (keyR at_ s))), [.var false 0 (.pv (.int .i64 at_))]) := by
  have h := o_bag_Sort_2_o1_1 (r.map Val.pv) (s.map Val.pv) at_
  rw [rowp_fold, rowp_fold, w_of, w_of] at h
  have c := w_compare (keyR at_ r) (keyR at_ s)
  simp only [Option.bind_some, c_g_i64_i64_mk, c, c_i64_mk] at h
  exact h
theorem sw_len {α : Type} (l : List α) (i j : Nat) : (sw l i j).length = l.length := by
  unfold sw
  split
  · simp
  · rfl
theorem swapN_len {α : Type} : ∀ (n a b : Nat) (l : List α), (swapN n a b l).length = l.length
  | 0, _, _, _ => rfl
  | n + 1, a, b, l => by unfold swapN; rw [swapN_len n, sw_len]
theorem mvR_len {α : Type} : ∀ (n k : Nat) (l : List α), (mvR n k l).length = l.length
  | 0, _, _ => rfl
  | n + 1, k, l => by unfold mvR; rw [mvR_len n, sw_len]
theorem mvL_len {α : Type} : ∀ (n k : Nat) (l : List α), (mvL n k l).length = l.length
  | 0, _, _ => rfl
  | n + 1, k, l => by unfold mvL; rw [mvL_len n, sw_len]
theorem rotG_len {α : Type} (m : Nat) : ∀ (f i j : Nat) (l : List α), (rotG m f i j l).length = l.length
  | 0, _, _, _ => rfl
  | f + 1, i, j, l => by
    unfold rotG
    split
    · exact swapN_len _ _ _ _
    · split
      · rw [rotG_len m f, swapN_len]
      · rw [rotG_len m f, swapN_len]
theorem insD_len {α : Type} (le : α → α → Bool) : ∀ (n k : Nat) (l : List α), (insD le n k l).length = l.length
  | 0, _, _ => rfl
  | n + 1, k, l => by
    unfold insD
    split
    · rfl
    · rw [insD_len le n, sw_len]
theorem insG_len {α : Type} (le : α → α → Bool) : ∀ (n a i : Nat) (l : List α), (insG le n a i l).length = l.length
  | 0, _, _, _ => rfl
  | n + 1, a, i, l => by unfold insG; rw [insG_len le n, insD_len]
theorem ite_len {α : Type} {p : Prop} [Decidable p] {x y : List α} {n : Nat} (h : x.length = n) (k : y.length = n) : (if p then x else y).length = n := by split <;> assumption
def symS {α : Type} (le : α → α → Bool) (f a m b mid st en : Nat) (l : List α) : List α :=
  let l1 := if st < m ∧ m < en then rotG m (en - st) (m - st) (en - m) l else l
  let l2 := if a < st ∧ st < mid then symF le f a st mid l1 else l1
  if mid < en ∧ en < b then symF le f mid en b l2 else l2
theorem symF_succ {α : Type} (le : α → α → Bool) (f a m b : Nat) (l : List α) : symF le (f + 1) a m b l =
    if m - a = 1 then mvR (bs (fun h => !leO le l a h) (b - m) m b - 1 - a) a l
    else if b - m = 1 then mvL (m - bs (fun h => leO le l h m) (m - a) a m) m l
    else if m > (a + b) / 2 then
      symS le f a m b ((a + b) / 2) (bs (fun c => leO le l c ((a + b) / 2 + m - 1 - c)) ((a + b) / 2 - ((a + b) / 2 + m - b)) ((a + b) / 2 + m - b) ((a + b) / 2)) ((a + b) / 2 + m - bs (fun c => leO le l c ((a + b) / 2 + m - 1 - c)) ((a + b) / 2 - ((a + b) / 2 + m - b)) ((a + b) / 2 + m - b) ((a + b) / 2)) l
    else
      symS le f a m b ((a + b) / 2) (bs (fun c => leO le l c ((a + b) / 2 + m - 1 - c)) (m - a) a m) ((a + b) / 2 + m - bs (fun c => leO le l c ((a + b) / 2 + m - 1 - c)) (m - a) a m) l := by
  rw [symF]
  split
  · rfl
  · split
    · rfl
    · by_cases h : m > (a + b) / 2
      · simp only [if_pos h]; rfl
      · simp only [if_neg h]; rfl
theorem symF_len {α : Type} (le : α → α → Bool) : ∀ (f a m b : Nat) (l : List α), (symF le f a m b l).length = l.length
  | 0, _, _, _, _ => rfl
  | f + 1, a, m, b, l => by
    have hS : ∀ st en mid, (symS le f a m b mid st en l).length = l.length := fun st en mid => by
      have h1 : (if st < m ∧ m < en then rotG m (en - st) (m - st) (en - m) l else l).length = l.length := ite_len (rotG_len _ _ _ _ _) rfl
      unfold symS
      simp only
      generalize (if st < m ∧ m < en then rotG m (en - st) (m - st) (en - m) l else l) = l1 at h1
      have h2 : (if a < st ∧ st < mid then symF le f a st mid l1 else l1).length = l.length := ite_len ((symF_len le f _ _ _ _).trans h1) h1
      generalize (if a < st ∧ st < mid then symF le f a st mid l1 else l1) = l2 at h2
      exact ite_len ((symF_len le f _ _ _ _).trans h2) h2
    rw [symF_succ]
    exact ite_len (mvR_len _ _ _) (ite_len (mvL_len _ _ _) (ite_len (hS _ _ _) (hS _ _ _)))
theorem bs_le (q : Nat → Bool) : ∀ (f lo hi : Nat), lo ≤ hi → lo ≤ bs q f lo hi ∧ bs q f lo hi ≤ hi
  | 0, lo, hi, h => ⟨Nat.le_refl _, h⟩
  | f + 1, lo, hi, h => by
    unfold bs
    split
    · split
      · have := bs_le q f ((lo + hi) / 2 + 1) hi (by omega); omega
      · have := bs_le q f lo ((lo + hi) / 2) (by omega); omega
    · omega
theorem sw_map (l : List (List Val)) (i j : Nat) (hi : i < l.length) (hj : j < l.length) : ((l.map rowp).set i (rowp l[j])).set j (rowp l[i]) = (sw l i j).map rowp := by
  unfold sw
  rw [List.getElem?_eq_getElem hi, List.getElem?_eq_getElem hj]
  simp only [List.map_set]
def tells (l : List (List Val)) (at_ : Int) : Option (AV × List Ob) := some (.pv (.tup []), [.fix 0 0 (l.map rowp), .var false 0 (.pv (.int .i64 at_))])
theorem swap_loop (at_ : Int) (a b n : Nat) : ∀ (k i : Nat) (l : List (List Val)), i + k = n → a + n ≤ l.length → b + n ≤ l.length → l.length ≤ 1000000000 →
    L_slices_swapRangeCmpFunc_api_Val_o2_1 (a : Int) (b : Int) (n : Int) (i : Int) (l.map rowp) at_ = tells (swapN k (a + i) (b + i) l) at_
  | 0, i, l, h, ha, hb, hl => by
    rw [L_slices_swapRangeCmpFunc_api_Val_o2_1_eq, show i = n by omega]
    simp only [ge_len, cond_false]; rfl
  | k + 1, i, l, h, ha, hb, hl => by
    have h1 : a + i < l.length := by omega
    have h2 : b + i < l.length := by omega
    have e1 : IntKind.wrap .i64 ((a : Int) + (i : Int)) = ((a + i : Nat) : Int) := by rw [wrap64 (by omega) (by omega)]; omega
    have e2 : IntKind.wrap .i64 ((b : Int) + (i : Int)) = ((b + i : Nat) : Int) := by rw [wrap64 (by omega) (by omega)]; omega
    rw [L_slices_swapRangeCmpFunc_api_Val_o2_1_eq]
    simp only [lt_len (show i < n by omega), cond_true, e1, e2, nat_le, Bool.true_and, List.length_set, List.length_map, lt_len h1, lt_len h2, Int.toNat_natCast, List.getElem?_map, List.getElem?_eq_getElem h1, List.getElem?_eq_getElem h2, Option.map_some, Option.bind_some, c_rowp, rowp_fold]
    have h3 : b + i < ((l.map rowp).set (a + i) (rowp l[b + i])).length := by simpa using h2
    rw [List.getElem?_eq_getElem h3]
    simp only [Option.bind_some]
    rw [sw_map l (a + i) (b + i) h1 h2, wrap_succ (by omega)]
    exact swap_loop at_ a b n k (i + 1) (sw l (a + i) (b + i)) (by omega) (by rw [sw_len]; exact ha) (by rw [sw_len]; exact hb) (by rw [sw_len]; exact hl)
theorem w_swapRange (at_ : Int) (a b n : Nat) (l : List (List Val)) (ha : a + n ≤ l.length) (hb : b + n ≤ l.length) (hl : l.length ≤ 1000000000) :
    W n_slices_swapRangeCmpFunc_api_Val false [.fx 0 0, .pv (.int .i64 (a : Int)), .pv (.int .i64 (b : Int)), .pv (.int .i64 (n : Int)), .fnv n_bag_Sort_2 [] [.own 1 0]] [.fix 0 0 (l.map rowp), .var false 0 (.pv (.int .i64 at_))] = tells (swapN n a b l) at_ := by
  rw [o_slices_swapRangeCmpFunc_api_Val_o2_1]
  exact swap_loop at_ a b n n 0 l (by omega) ha hb hl
theorem rot_loop (at_ : Int) (m : Nat) : ∀ (f i j : Nat) (l : List (List Val)), 0 < i → 0 < j → i + j ≤ f → i ≤ m → m + j ≤ l.length → l.length ≤ 1000000000 →
    L_slices_rotateCmpFunc_api_Val_o2_1 (m : Int) (i : Int) (j : Int) (l.map rowp) at_ = tells (rotG m f i j l) at_
  | 0, i, j, l, hi, hj, hf, _, _, _ => by omega
  | f + 1, i, j, l, hi, hj, hf, him, hmj, hl => by
    have e1 : IntKind.wrap .i64 ((m : Int) - (i : Int)) = ((m - i : Nat) : Int) := by rw [wrap64 (by omega) (by omega)]; omega
    rw [L_slices_rotateCmpFunc_api_Val_o2_1_eq]
    unfold rotG
    rcases Nat.lt_trichotomy i j with h | h | h
    · rw [bne_t (by omega), decide_eq_false (by omega), if_neg (by omega), if_neg (by omega)]
      have e2 : IntKind.wrap .i64 ((IntKind.wrap .i64 ((m : Int) + (j : Int))) - (i : Int)) = ((m + j - i : Nat) : Int) := by rw [wrap64 (n := (m : Int) + j) (by omega) (by omega), wrap64 (by omega) (by omega)]; omega
      have e3 : IntKind.wrap .i64 ((j : Int) - (i : Int)) = ((j - i : Nat) : Int) := by rw [wrap64 (by omega) (by omega)]; omega
      have hs := w_swapRange at_ (m - i) (m + j - i) i l (by omega) (by omega) hl
      simp only [cond_true, cond_false, e1, e2, e3, hs, tells, Option.bind_some, k_c4d914_mk]
      exact rot_loop at_ m f i (j - i) _ hi (by omega) (by omega) him (by rw [swapN_len]; omega) (by rw [swapN_len]; exact hl)
    · subst h
      have hs := w_swapRange at_ (m - i) m i l (by omega) (by omega) hl
      rw [bne_f rfl, if_pos rfl]
      simp only [cond_false, e1, hs, tells, Option.bind_some, k_c4d914_mk]
    · rw [bne_t (by omega), decide_eq_true (by omega), if_neg (by omega), if_pos h]
      have e3 : IntKind.wrap .i64 ((i : Int) - (j : Int)) = ((i - j : Nat) : Int) := by rw [wrap64 (by omega) (by omega)]; omega
      have hs := w_swapRange at_ (m - i) m j l (by omega) (by omega) hl
      simp only [cond_true, cond_false, e1, e3, hs, tells, Option.bind_some, k_c4d914_mk]
      exact rot_loop at_ m f (i - j) j _ (by omega) hj (by omega) (by omega) (by rw [swapN_len]; omega) (by rw [swapN_len]; exact hl)
theorem w_rotate (at_ : Int) (a m b : Nat) (l : List (List Val)) (h1 : a < m) (h2 : m < b) (h3 : b ≤ l.length) (hl : l.length ≤ 1000000000) :
    W n_slices_rotateCmpFunc_api_Val false [.fx 0 0, .pv (.int .i64 (a : Int)), .pv (.int .i64 (m : Int)), .pv (.int .i64 (b : Int)), .fnv n_bag_Sort_2 [] [.own 1 0]] [.fix 0 0 (l.map rowp), .var false 0 (.pv (.int .i64 at_))] = tells (rotG m (b - a) (m - a) (b - m) l) at_ := by
  rw [o_slices_rotateCmpFunc_api_Val_o2_1, show IntKind.wrap .i64 ((m : Int) - (a : Int)) = ((m - a : Nat) : Int) by rw [wrap64 (by omega) (by omega)]; omega, show IntKind.wrap .i64 ((b : Int) - (m : Int)) = ((b - m : Nat) : Int) by rw [wrap64 (by omega) (by omega)]; omega]
  exact rot_loop at_ m (b - a) (m - a) (b - m) l (by omega) (by omega) (by omega) (by omega) (by omega) hl
theorem leO_get (at_ : Int) (l : List (List Val)) (i j : Nat) (hi : i < l.length) (hj : j < l.length) : leO (leR at_) l i j = !decide (cmpB (keyR at_ l[j]) (keyR at_ l[i]) < 0) := by
  unfold leO
  rw [List.getElem?_eq_getElem hi, List.getElem?_eq_getElem hj]; rfl
theorem ins_outer (at_ : Int) (a b : Nat) : ∀ (n i : Nat) (l : List (List Val)), i + n = b → a < i → b ≤ l.length → l.length ≤ 1000000000 →
    L_slices_insertionSortCmpFunc_api_Val_o2_1 (a : Int) (b : Int) (i : Int) (l.map rowp) at_ = tells (insG (leR at_) n a i l) at_
  | 0, i, l, h, ha, hb, hl => by
    rw [L_slices_insertionSortCmpFunc_api_Val_o2_1_eq, show i = b by omega]
    simp only [ge_len, cond_false]; rfl
  | n + 1, i, l, h, ha, hb, hl => by
    rw [L_slices_insertionSortCmpFunc_api_Val_o2_1_eq]
    simp only [lt_len (show i < b by omega), cond_true]
    have key : ∀ (n' k : Nat) (l : List (List Val)), k = a + n' → k ≤ i → k < l.length → b ≤ l.length → l.length ≤ 1000000000 → L_slices_insertionSortCmpFunc_api_Val_o2_2 (a : Int) (b : Int) (i : Int) (k : Int) (l.map rowp) at_ = tells (insG (leR at_) n a (i + 1) (insD (leR at_) n' k l)) at_ := by
      intro n'
      induction n' with
      | zero =>
        intro k l h1 h2 h3 h4 h5
        rw [L_slices_insertionSortCmpFunc_api_Val_o2_2_eq, decide_eq_false (by omega), cond_false, wrap_succ (by omega)]
        exact ins_outer at_ a b n (i + 1) l (by omega) (by omega) h4 h5
      | succ n' ih =>
        intro k l h1 h2 hk h4 hl
        have hk1 : k - 1 < l.length := by omega
        have e1 : IntKind.wrap .i64 ((k : Int) - 1) = ((k - 1 : Nat) : Int) := by rw [wrap64 (by omega) (by omega)]; omega
        rw [L_slices_insertionSortCmpFunc_api_Val_o2_2_eq, decide_eq_true (show (k : Int) > (a : Int) by omega)]
        simp only [cond_true, e1, nat_le, Bool.true_and, List.length_map, lt_len hk, lt_len hk1, Int.toNat_natCast, List.getElem?_map, List.getElem?_eq_getElem hk, List.getElem?_eq_getElem hk1, Option.map_some, Option.bind_some, c_rowp, rowp_fold, w_Sort2, k_5b106d_mk, c_i64_mk]
        unfold insD
        rw [leO_get at_ l (k - 1) k hk1 hk]
        cases hd : decide (cmpB (keyR at_ l[k]) (keyR at_ l[k - 1]) < 0) with
        | false =>
          simp only [cond_false, Bool.not_false, if_true]
          rw [wrap_succ (by omega)]
          exact ins_outer at_ a b n (i + 1) l (by omega) (by omega) h4 hl
        | true =>
          simp only [cond_true, Bool.not_true, Bool.false_eq_true, if_false, J_slices_insertionSortCmpFunc_api_Val_o2_3_eq, e1, nat_le, Bool.true_and, List.length_set, List.length_map, lt_len hk, lt_len hk1, Int.toNat_natCast, List.getElem?_map, List.getElem?_eq_getElem hk, List.getElem?_eq_getElem hk1, Option.map_some, Option.bind_some, c_rowp, rowp_fold]
          have h3 : k - 1 < ((l.map rowp).set k (rowp l[k - 1])).length := by simpa using hk1
          rw [List.getElem?_eq_getElem h3]
          simp only [Option.bind_some]
          rw [sw_map l k (k - 1) hk hk1]
          exact ih (k - 1) (sw l k (k - 1)) (by omega) (by omega) (by rw [sw_len]; omega) (by rw [sw_len]; exact h4) (by rw [sw_len]; exact hl)
    have := key (i - a) i l (by omega) (Nat.le_refl _) (by omega) hb hl
    rw [this]; rfl
theorem w_insertion (at_ : Int) (a b : Nat) (l : List (List Val)) (hb : b ≤ l.length) (hab : a ≤ b) (hl : l.length ≤ 1000000000) :
    W n_slices_insertionSortCmpFunc_api_Val false [.fx 0 0, .pv (.int .i64 (a : Int)), .pv (.int .i64 (b : Int)), .fnv n_bag_Sort_2 [] [.own 1 0]] [.fix 0 0 (l.map rowp), .var false 0 (.pv (.int .i64 at_))] = tells (insB (leR at_) a b l) at_ := by
  rw [o_slices_insertionSortCmpFunc_api_Val_o2_1, wrap_succ (by omega)]
  unfold insB
  rcases Nat.lt_or_ge a b with h | h
  · exact ins_outer at_ a b (b - (a + 1)) (a + 1) l (by omega) (by omega) hb hl
  · rw [show b - (a + 1) = 0 by omega, L_slices_insertionSortCmpFunc_api_Val_o2_1_eq, decide_eq_false (by omega)]; rfl
end Go.Cf

namespace Go.Cf
open Go Go.Ab
set_option linter.unusedVariables false
set_option linter.unusedSimpArgs false
theorem half_w (x y : Nat) (h : x + y ≤ 4000000000) : IntKind.wrap .i64 (Int.fdiv (IntKind.wrap .u64 (IntKind.wrap .i64 ((x : Int) + (y : Int)))) 2) = (((x + y) / 2 : Nat) : Int) := by
  rw [wrap64 (n := (x : Int) + y) (by omega) (by omega)]
  have e : IntKind.wrap .u64 ((x : Int) + (y : Int)) = ((x + y : Nat) : Int) := by
    simp only [IntKind.wrap, IntKind.bits, IntKind.signed]
    simp
    omega
  rw [e, show Int.fdiv ((x + y : Nat) : Int) 2 = (((x + y) / 2 : Nat) : Int) by
    rw [Int.fdiv_eq_ediv_of_nonneg _ (by omega)]; omega]
  exact wrap64 (by omega) (by omega)
theorem mvR_loop (at_ : Int) (i : Nat) : ∀ (n k : Nat) (l : List (List Val)), k + n = i - 1 → 0 < i → i ≤ l.length → l.length ≤ 1000000000 →
    L_slices_symMergeCmpFunc_api_Val_o2_4 (i : Int) (k : Int) (l.map rowp) at_ = tells (mvR n k l) at_
  | 0, k, l, h, h0, hi, hl => by
    have e1 : IntKind.wrap .i64 ((i : Int) - 1) = ((i - 1 : Nat) : Int) := by rw [wrap64 (by omega) (by omega)]; omega
    rw [L_slices_symMergeCmpFunc_api_Val_o2_4_eq, e1, decide_eq_false (by omega)]; rfl
  | n + 1, k, l, h, h0, hi, hl => by
    have e1 : IntKind.wrap .i64 ((i : Int) - 1) = ((i - 1 : Nat) : Int) := by rw [wrap64 (by omega) (by omega)]; omega
    have e2 : IntKind.wrap .i64 ((k : Int) + 1) = ((k + 1 : Nat) : Int) := by rw [wrap64 (by omega) (by omega)]; omega
    have h1 : k < l.length := by omega
    have h2 : k + 1 < l.length := by omega
    rw [L_slices_symMergeCmpFunc_api_Val_o2_4_eq]
    simp only [e1, e2, decide_eq_true (show (k : Int) < ((i - 1 : Nat) : Int) by omega), cond_true, nat_le, Bool.true_and, List.length_set, List.length_map, lt_len h1, lt_len h2, Int.toNat_natCast, List.getElem?_map, List.getElem?_eq_getElem h1, List.getElem?_eq_getElem h2, Option.map_some, Option.bind_some, c_rowp, rowp_fold]
    have h3 : k + 1 < ((l.map rowp).set k (rowp l[k + 1])).length := by simpa using h2
    rw [List.getElem?_eq_getElem h3]
    simp only [Option.bind_some]
    rw [sw_map l k (k + 1) h1 h2]
    exact mvR_loop at_ i n (k + 1) (sw l k (k + 1)) (by omega) h0 (by rw [sw_len]; exact hi) (by rw [sw_len]; exact hl)
theorem mvL_loop (at_ : Int) (i : Nat) : ∀ (n k : Nat) (l : List (List Val)), k = i + n → k < l.length → l.length ≤ 1000000000 →
    L_slices_symMergeCmpFunc_api_Val_o2_5 (i : Int) (k : Int) (l.map rowp) at_ = tells (mvL n k l) at_
  | 0, k, l, h, hk, hl => by
    rw [L_slices_symMergeCmpFunc_api_Val_o2_5_eq, decide_eq_false (by omega)]; rfl
  | n + 1, k, l, h, h1, hl => by
    have e2 : IntKind.wrap .i64 ((k : Int) - 1) = ((k - 1 : Nat) : Int) := by rw [wrap64 (by omega) (by omega)]; omega
    have h2 : k - 1 < l.length := by omega
    rw [L_slices_symMergeCmpFunc_api_Val_o2_5_eq]
    simp only [e2, decide_eq_true (show (k : Int) > (i : Int) by omega), cond_true, nat_le, Bool.true_and, List.length_set, List.length_map, lt_len h1, lt_len h2, Int.toNat_natCast, List.getElem?_map, List.getElem?_eq_getElem h1, List.getElem?_eq_getElem h2, Option.map_some, Option.bind_some, c_rowp, rowp_fold]
    have h3 : k - 1 < ((l.map rowp).set k (rowp l[k - 1])).length := by simpa using h2
    rw [List.getElem?_eq_getElem h3]
    simp only [Option.bind_some]
    rw [sw_map l k (k - 1) h1 h2]
    exact mvL_loop at_ i n (k - 1) (sw l k (k - 1)) (by omega) (by rw [sw_len]; omega) (by rw [sw_len]; exact hl)
theorem bs1_loop (at_ : Int) (a : Nat) (l : List (List Val)) (ha : a < l.length) (hl : l.length ≤ 1000000000) : ∀ (f lo hi : Nat), hi - lo ≤ f → lo ≤ hi → hi ≤ l.length →
    L_slices_symMergeCmpFunc_api_Val_o2_1 (a : Int) (lo : Int) (hi : Int) (l.map rowp) at_ = L_slices_symMergeCmpFunc_api_Val_o2_4 ((bs (fun h => !leO (leR at_) l a h) f lo hi : Nat) : Int) (a : Int) (l.map rowp) at_
  | 0, lo, hi, h, hle, hh => by
    rw [L_slices_symMergeCmpFunc_api_Val_o2_1_eq, decide_eq_false (by omega)]; rfl
  | f + 1, lo, hi, h, hle, hh => by
    rw [L_slices_symMergeCmpFunc_api_Val_o2_1_eq]
    unfold bs
    rcases Nat.lt_or_ge lo hi with c | c
    · have hm : (lo + hi) / 2 < l.length := by omega
      rw [if_pos c, leO_get at_ l a ((lo + hi) / 2) ha hm]
      simp only [lt_len c, cond_true, half_w lo hi (by omega), nat_le, Bool.true_and, List.length_map, lt_len hm, lt_len ha, Int.toNat_natCast, List.getElem?_map, List.getElem?_eq_getElem hm, List.getElem?_eq_getElem ha, Option.map_some, Option.bind_some, c_rowp, rowp_fold, w_Sort2, k_5b106d_mk, c_i64_mk, Bool.not_not]
      cases hd : decide (cmpB (keyR at_ l[(lo + hi) / 2]) (keyR at_ l[a]) < 0) with
      | true =>
        simp only [cond_true, if_true]
        rw [wrap_succ (by omega)]
        exact bs1_loop at_ a l ha hl f ((lo + hi) / 2 + 1) hi (by omega) (by omega) hh
      | false =>
        simp only [cond_false, Bool.false_eq_true, if_false]
        exact bs1_loop at_ a l ha hl f lo ((lo + hi) / 2) (by omega) (by omega) (by omega)
    · rw [if_neg (by omega), decide_eq_false (by omega)]; rfl
theorem bs2_loop (at_ : Int) (m : Nat) (l : List (List Val)) (ha : m < l.length) (hl : l.length ≤ 1000000000) : ∀ (f lo hi : Nat), hi - lo ≤ f → lo ≤ hi → hi ≤ l.length →
    L_slices_symMergeCmpFunc_api_Val_o2_2 (m : Int) (lo : Int) (hi : Int) (l.map rowp) at_ = L_slices_symMergeCmpFunc_api_Val_o2_5 ((bs (fun h => leO (leR at_) l h m) f lo hi : Nat) : Int) (m : Int) (l.map rowp) at_
  | 0, lo, hi, h, hle, hh => by
    rw [L_slices_symMergeCmpFunc_api_Val_o2_2_eq, decide_eq_false (by omega)]; rfl
  | f + 1, lo, hi, h, hle, hh => by
    rw [L_slices_symMergeCmpFunc_api_Val_o2_2_eq]
    unfold bs
    rcases Nat.lt_or_ge lo hi with c | c
    · have hm : (lo + hi) / 2 < l.length := by omega
      rw [if_pos c, leO_get at_ l ((lo + hi) / 2) m hm ha]
      simp only [lt_len c, cond_true, half_w lo hi (by omega), nat_le, Bool.true_and, List.length_map, lt_len hm, lt_len ha, Int.toNat_natCast, List.getElem?_map, List.getElem?_eq_getElem hm, List.getElem?_eq_getElem ha, Option.map_some, Option.bind_some, c_rowp, rowp_fold, w_Sort2, k_5b106d_mk, c_i64_mk]
      cases hd : decide (cmpB (keyR at_ l[m]) (keyR at_ l[(lo + hi) / 2]) < 0) with
      | false =>
        simp only [cond_true, Bool.not_false, if_true]
        rw [wrap_succ (by omega)]
        exact bs2_loop at_ m l ha hl f ((lo + hi) / 2 + 1) hi (by omega) (by omega) hh
      | true =>
        simp only [cond_false, Bool.not_true, Bool.false_eq_true, if_false]
        exact bs2_loop at_ m l ha hl f lo ((lo + hi) / 2) (by omega) (by omega) (by omega)
    · rw [if_neg (by omega), decide_eq_false (by omega)]; rfl
theorem bs3_loop (at_ : Int) (a m b mid n p : Nat) (l : List (List Val)) (hl : l.length ≤ 1000000000) (hn : p = n - 1) (R : Nat → Option (AV × List Ob))
    (hR : ∀ st : Nat, st ≤ n → (bif decide ((st : Int) < (m : Int)) then J_slices_symMergeCmpFunc_api_Val_o2_7 (a : Int) (m : Int) (b : Int) (mid : Int) (st : Int) (IntKind.wrap .i64 ((n : Int) - (st : Int))) (decide ((m : Int) < IntKind.wrap .i64 ((n : Int) - (st : Int)))) (l.map rowp) at_
      else J_slices_symMergeCmpFunc_api_Val_o2_7 (a : Int) (m : Int) (b : Int) (mid : Int) (st : Int) (IntKind.wrap .i64 ((n : Int) - (st : Int))) false (l.map rowp) at_) = R st) : ∀ (f lo hi : Nat), hi - lo ≤ f → lo ≤ hi → hi ≤ l.length → p - lo < l.length → hi ≤ p + 1 → hi ≤ n →
    L_slices_symMergeCmpFunc_api_Val_o2_6 (a : Int) (m : Int) (b : Int) (mid : Int) (n : Int) (lo : Int) (hi : Int) (p : Int) (l.map rowp) at_ = R (bs (fun c => leO (leR at_) l c (n - 1 - c)) f lo hi)
  | 0, lo, hi, h, hle, hh, hp, hhp, hhn => by
    rw [L_slices_symMergeCmpFunc_api_Val_o2_6_eq, decide_eq_false (by omega)]
    exact hR lo (by omega)
  | f + 1, lo, hi, h, hle, hh, hp, hhp, hhn => by
    rw [L_slices_symMergeCmpFunc_api_Val_o2_6_eq]
    unfold bs
    rcases Nat.lt_or_ge lo hi with c | c
    · have hm : (lo + hi) / 2 < l.length := by omega
      have hq : p - (lo + hi) / 2 < l.length := by omega
      have e1 : IntKind.wrap .i64 ((p : Int) - (((lo + hi) / 2 : Nat) : Int)) = ((p - (lo + hi) / 2 : Nat) : Int) := by rw [wrap64 (by omega) (by omega)]; omega
      rw [if_pos c]
      have e2 : leO (leR at_) l ((lo + hi) / 2) (n - 1 - (lo + hi) / 2) = !decide (cmpB (keyR at_ l[p - (lo + hi) / 2]) (keyR at_ l[(lo + hi) / 2]) < 0) := by
        subst hn; exact leO_get at_ l ((lo + hi) / 2) (n - 1 - (lo + hi) / 2) hm hq
      rw [e2]
      simp only [lt_len c, cond_true, half_w lo hi (by omega), e1, nat_le, Bool.true_and, List.length_map, lt_len hm, lt_len hq, Int.toNat_natCast, List.getElem?_map, List.getElem?_eq_getElem hm, List.getElem?_eq_getElem hq, Option.map_some, Option.bind_some, c_rowp, rowp_fold, w_Sort2, k_5b106d_mk, c_i64_mk]
      cases hd : decide (cmpB (keyR at_ l[p - (lo + hi) / 2]) (keyR at_ l[(lo + hi) / 2]) < 0) with
      | false =>
        simp only [cond_true, Bool.not_false, if_true]
        rw [wrap_succ (by omega)]
        exact bs3_loop at_ a m b mid n p l hl hn R hR f ((lo + hi) / 2 + 1) hi (by omega) (by omega) hh (by omega) hhp hhn
      | true =>
        simp only [cond_false, Bool.not_true, Bool.false_eq_true, if_false]
        exact bs3_loop at_ a m b mid n p l hl hn R hR f lo ((lo + hi) / 2) (by omega) (by omega) (by omega) hp (by omega) (by omega)
    · rw [if_neg (by omega), decide_eq_false (by omega)]
      exact hR lo (by omega)
noncomputable abbrev symW (at_ : Int) (a m b : Nat) (l : List (List Val)) : Option (AV × List Ob) :=
  W n_slices_symMergeCmpFunc_api_Val false [.fx 0 0, .pv (.int .i64 (a : Int)), .pv (.int .i64 (m : Int)), .pv (.int .i64 (b : Int)), .fnv n_bag_Sort_2 [] [.own 1 0]] [.fix 0 0 (l.map rowp), .var false 0 (.pv (.int .i64 at_))]
theorem sym_tail (at_ : Int) (f : Nat) (ih : ∀ (a m b : Nat) (l : List (List Val)), a < m → m < b → b ≤ l.length → l.length ≤ 1000000000 → b - a ≤ f → symW at_ a m b l = tells (symF (leR at_) f a m b l) at_)
    (a m b mid st en : Nat) (l : List (List Val)) (h1 : a < b) (hmid : mid ≤ b) (hma : mid - a ≤ f) (hmb : b - mid ≤ f) (h2 : en ≤ b) (hen : m ≤ en ∨ en ≤ m) (hb : b ≤ l.length) (hl : l.length ≤ 1000000000) :
    (bif decide ((st : Int) < (m : Int)) then J_slices_symMergeCmpFunc_api_Val_o2_7 (a : Int) (m : Int) (b : Int) (mid : Int) (st : Int) (en : Int) (decide ((m : Int) < (en : Int))) (l.map rowp) at_
      else J_slices_symMergeCmpFunc_api_Val_o2_7 (a : Int) (m : Int) (b : Int) (mid : Int) (st : Int) (en : Int) false (l.map rowp) at_) = tells (symS (leR at_) f a m b mid st en l) at_ := by
  have h11 : ∀ (l : List (List Val)), b ≤ l.length → l.length ≤ 1000000000 → J_slices_symMergeCmpFunc_api_Val_o2_10 (b : Int) (mid : Int) (en : Int) (l.map rowp) at_ = tells (if mid < en ∧ en < b then symF (leR at_) f mid en b l else l) at_ := fun l hb hl => by
    rw [J_slices_symMergeCmpFunc_api_Val_o2_10_eq]
    by_cases c1 : mid < en
    · rw [lt_len c1, cond_true, J_slices_symMergeCmpFunc_api_Val_o2_11_eq]
      by_cases c2 : en < b
      · rw [lt_len c2, cond_true, if_pos ⟨c1, c2⟩]
        have := ih mid en b l c1 c2 hb hl hmb
        unfold symW at this
        rw [this]
        simp only [tells, Option.bind_some, k_c4d914_mk]
      · rw [decide_eq_false (by omega), cond_false, if_neg (fun h => c2 h.2)]; rfl
    · rw [decide_eq_false (by omega), cond_false, J_slices_symMergeCmpFunc_api_Val_o2_11_eq, cond_false, if_neg (fun h => c1 h.1)]; rfl
  have h9 : ∀ (l l2 : List (List Val)), l2 = (if a < st ∧ st < mid then symF (leR at_) f a st mid l else l) → b ≤ l.length → l.length ≤ 1000000000 → J_slices_symMergeCmpFunc_api_Val_o2_8 (a : Int) (b : Int) (mid : Int) (st : Int) (en : Int) (l.map rowp) at_ =
      tells (if mid < en ∧ en < b then symF (leR at_) f mid en b l2 else l2) at_ := fun l l2 e hb hl => by
    rw [J_slices_symMergeCmpFunc_api_Val_o2_8_eq]
    by_cases c1 : a < st
    · rw [lt_len c1, cond_true, J_slices_symMergeCmpFunc_api_Val_o2_9_eq]
      by_cases c2 : st < mid
      · rw [if_pos ⟨c1, c2⟩] at e
        subst e
        rw [lt_len c2, cond_true]
        have := ih a st mid l c1 c2 (by omega) hl hma
        unfold symW at this
        rw [this]
        simp only [tells, Option.bind_some, k_c4d914_mk]
        exact h11 _ (by rw [symF_len]; exact hb) (by rw [symF_len]; exact hl)
      · rw [if_neg (fun h => c2 h.2)] at e
        subst e
        rw [decide_eq_false (by omega), cond_false]; exact h11 _ hb hl
    · rw [if_neg (fun h => c1 h.1)] at e
      subst e
      rw [decide_eq_false (by omega), cond_false, J_slices_symMergeCmpFunc_api_Val_o2_9_eq, cond_false]; exact h11 _ hb hl
  have e1 : ∃ l1 : List (List Val), l1 = if st < m ∧ m < en then rotG m (en - st) (m - st) (en - m) l else l := ⟨_, rfl⟩
  obtain ⟨l1, e1⟩ := e1
  have hS : symS (leR at_) f a m b mid st en l = if mid < en ∧ en < b then symF (leR at_) f mid en b (if a < st ∧ st < mid then symF (leR at_) f a st mid l1 else l1) else (if a < st ∧ st < mid then symF (leR at_) f a st mid l1 else l1) := by rw [e1]; rfl
  rw [hS]
  by_cases c1 : st < m
  · rw [lt_len c1, cond_true, J_slices_symMergeCmpFunc_api_Val_o2_7_eq]
    by_cases c2 : m < en
    · rw [if_pos ⟨c1, c2⟩] at e1
      subst e1
      rw [lt_len c2, cond_true, w_rotate at_ st m en l c1 c2 (by omega) hl]
      simp only [tells, Option.bind_some, k_c4d914_mk]
      exact h9 _ _ rfl (by rw [rotG_len]; exact hb) (by rw [rotG_len]; exact hl)
    · rw [if_neg (fun h => c2 h.2)] at e1
      subst e1
      rw [decide_eq_false (by omega), cond_false]; exact h9 _ _ rfl hb hl
  · rw [if_neg (fun h => c1 h.1)] at e1
    subst e1
    rw [decide_eq_false (by omega), cond_false, J_slices_symMergeCmpFunc_api_Val_o2_7_eq, cond_false]; exact h9 _ _ rfl hb hl
theorem w_symMerge (at_ : Int) : ∀ (f a m b : Nat) (l : List (List Val)), a < m → m < b → b ≤ l.length → l.length ≤ 1000000000 → b - a ≤ f → symW at_ a m b l = tells (symF (leR at_) f a m b l) at_
  | 0, a, m, b, l, h1, h2, h3, h4, h5 => by omega
  | f + 1, a, m, b, l, h1, h2, h3, h4, h5 => by
    have em : IntKind.wrap .i64 ((m : Int) - (a : Int)) = ((m - a : Nat) : Int) := by rw [wrap64 (by omega) (by omega)]; omega
    have eb : IntKind.wrap .i64 ((b : Int) - (m : Int)) = ((b - m : Nat) : Int) := by rw [wrap64 (by omega) (by omega)]; omega
    unfold symW
    rw [o_slices_symMergeCmpFunc_api_Val_o2_1, em, eb, symF_succ]
    by_cases c1 : m - a = 1
    · rw [beq_t (by omega), cond_true, if_pos c1, bs1_loop at_ a l (by omega) h4 (b - m) m b (by omega) (by omega) h3]
      have := bs_le (fun h => !leO (leR at_) l a h) (b - m) m b (by omega)
      exact mvR_loop at_ _ _ a l (by omega) (by omega) (by omega) h4
    · rw [beq_f (by omega), cond_false, if_neg c1]
      by_cases c2 : b - m = 1
      · rw [beq_t (by omega), cond_true, if_pos c2, bs2_loop at_ m l (by omega) h4 (m - a) a m (by omega) (by omega) (by omega)]
        have := bs_le (fun h => leO (leR at_) l h m) (m - a) a m (by omega)
        exact mvL_loop at_ _ _ m l (by omega) (by omega) h4
      · rw [beq_f (by omega), cond_false, if_neg c2, half_w a b (by omega)]
        have en : IntKind.wrap .i64 ((((a + b) / 2 : Nat) : Int) + (m : Int)) = (((a + b) / 2 + m : Nat) : Int) := by rw [wrap64 (by omega) (by omega)]; omega
        have ep : IntKind.wrap .i64 ((((a + b) / 2 + m : Nat) : Int) - 1) = (((a + b) / 2 + m - 1 : Nat) : Int) := by rw [wrap64 (by omega) (by omega)]; omega
        rw [en]
        by_cases c3 : m > (a + b) / 2
        · have es : IntKind.wrap .i64 ((((a + b) / 2 + m : Nat) : Int) - (b : Int)) = (((a + b) / 2 + m - b : Nat) : Int) := by rw [wrap64 (by omega) (by omega)]; omega
          have hb := bs_le (fun c => leO (leR at_) l c ((a + b) / 2 + m - 1 - c)) ((a + b) / 2 - ((a + b) / 2 + m - b)) ((a + b) / 2 + m - b) ((a + b) / 2) (by omega)
          rw [decide_eq_true (by omega), cond_true, if_pos c3, es, J_slices_symMergeCmpFunc_api_Val_o2_3_eq, ep]
          have k := bs3_loop at_ a m b ((a + b) / 2) ((a + b) / 2 + m) ((a + b) / 2 + m - 1) l h4 rfl (fun st => (bif decide ((st : Int) < (m : Int)) then J_slices_symMergeCmpFunc_api_Val_o2_7 (a : Int) (m : Int) (b : Int) (((a + b) / 2 : Nat) : Int) (st : Int) (IntKind.wrap .i64 ((((a + b) / 2 + m : Nat) : Int) - (st : Int))) (decide ((m : Int) < IntKind.wrap .i64 ((((a + b) / 2 + m : Nat) : Int) - (st : Int)))) (l.map rowp) at_
            else J_slices_symMergeCmpFunc_api_Val_o2_7 (a : Int) (m : Int) (b : Int) (((a + b) / 2 : Nat) : Int) (st : Int) (IntKind.wrap .i64 ((((a + b) / 2 + m : Nat) : Int) - (st : Int))) false (l.map rowp) at_)) (fun st h => rfl) ((a + b) / 2 - ((a + b) / 2 + m - b)) ((a + b) / 2 + m - b) ((a + b) / 2) (by omega) (by omega) (by omega) (by omega) (by omega) (by omega)
          rw [k]
          generalize bs (fun c => leO (leR at_) l c ((a + b) / 2 + m - 1 - c)) ((a + b) / 2 - ((a + b) / 2 + m - b)) ((a + b) / 2 + m - b) ((a + b) / 2) = st at hb
          have ee : IntKind.wrap .i64 ((((a + b) / 2 + m : Nat) : Int) - (st : Int)) = (((a + b) / 2 + m - st : Nat) : Int) := by rw [wrap64 (by omega) (by omega)]; omega
          rw [ee]
          exact sym_tail at_ f (fun a m b l h1 h2 h3 h4 h5 => w_symMerge at_ f a m b l h1 h2 h3 h4 h5) a m b ((a + b) / 2) st ((a + b) / 2 + m - st) l (by omega) (by omega) (by omega) (by omega) (by omega) (by omega) h3 h4
        · have hb := bs_le (fun c => leO (leR at_) l c ((a + b) / 2 + m - 1 - c)) (m - a) a m (by omega)
          rw [decide_eq_false (by omega), cond_false, if_neg c3, J_slices_symMergeCmpFunc_api_Val_o2_3_eq, ep]
          have k := bs3_loop at_ a m b ((a + b) / 2) ((a + b) / 2 + m) ((a + b) / 2 + m - 1) l h4 rfl (fun st => (bif decide ((st : Int) < (m : Int)) then J_slices_symMergeCmpFunc_api_Val_o2_7 (a : Int) (m : Int) (b : Int) (((a + b) / 2 : Nat) : Int) (st : Int) (IntKind.wrap .i64 ((((a + b) / 2 + m : Nat) : Int) - (st : Int))) (decide ((m : Int) < IntKind.wrap .i64 ((((a + b) / 2 + m : Nat) : Int) - (st : Int)))) (l.map rowp) at_
            else J_slices_symMergeCmpFunc_api_Val_o2_7 (a : Int) (m : Int) (b : Int) (((a + b) / 2 : Nat) : Int) (st : Int) (IntKind.wrap .i64 ((((a + b) / 2 + m : Nat) : Int) - (st : Int))) false (l.map rowp) at_)) (fun st h => rfl) (m - a) a m (by omega) (by omega) (by omega) (by omega) (by omega) (by omega)
          rw [k]
          generalize bs (fun c => leO (leR at_) l c ((a + b) / 2 + m - 1 - c)) (m - a) a m = st at hb
          have ee : IntKind.wrap .i64 ((((a + b) / 2 + m : Nat) : Int) - (st : Int)) = (((a + b) / 2 + m - st : Nat) : Int) := by rw [wrap64 (by omega) (by omega)]; omega
          rw [ee]
          exact sym_tail at_ f (fun a m b l h1 h2 h3 h4 h5 => w_symMerge at_ f a m b l h1 h2 h3 h4 h5) a m b ((a + b) / 2) st ((a + b) / 2 + m - st) l (by omega) (by omega) (by omega) (by omega) (by omega) (by omega) h3 h4
end Go.Cf

namespace Go.Cf
open Go Go.Ab
set_option linter.unusedVariables false
set_option linter.unusedSimpArgs false
theorem pass_len {α : Type} (le : α → α → Bool) (s n : Nat) : ∀ (f a : Nat) (l : List α), (pass le s n f a l).length = l.length
  | 0, _, _ => rfl
  | f + 1, a, l => by
    unfold pass
    split
    · rw [pass_len le s n f, symF_len]
    · split
      · exact symF_len _ _ _ _ _ _
      · rfl
theorem blk1_len {α : Type} (le : α → α → Bool) (n : Nat) : ∀ (f a : Nat) (l : List α), (blk1 le n f a l).length = l.length
  | 0, _, _ => rfl
  | f + 1, a, l => by
    unfold blk1
    split
    · rw [blk1_len le n f]; exact insG_len _ _ _ _ _
    · exact insG_len _ _ _ _ _
theorem stL_loop (at_ : Int) (n : Nat) (hn : n ≤ 1000000000) : ∀ (f s : Nat) (l : List (List Val)), n < f + s → 0 < s → s ≤ 2000000000 → l.length = n →
    L_slices_stableCmpFunc_api_Val_o2_2 (n : Int) (s : Int) (l.map rowp) at_ = tells (stL (leR at_) n f s l) at_
  | 0, s, l, h, h0, hs, hl => by
    rw [L_slices_stableCmpFunc_api_Val_o2_2_eq, decide_eq_false (by omega)]; rfl
  | f + 1, s, l, h, h0, hs, hl => by
    rw [L_slices_stableCmpFunc_api_Val_o2_2_eq]
    unfold stL
    by_cases c : s < n
    · have e1 : IntKind.wrap .i64 ((2 : Int) * (s : Int)) = ((2 * s : Nat) : Int) := by rw [wrap64 (by omega) (by omega)]; omega
      have e2 : IntKind.wrap .i64 ((s : Int) * (2 : Int)) = ((2 * s : Nat) : Int) := by rw [wrap64 (by omega) (by omega)]; omega
      rw [lt_len c, cond_true, if_pos c, e1]
      have key : ∀ (g a : Nat) (l : List (List Val)), n < a + g → a ≤ n → l.length = n → L_slices_stableCmpFunc_api_Val_o2_3 (n : Int) (s : Int) (a : Int) ((a + 2 * s : Nat) : Int) (l.map rowp) at_ = tells (stL (leR at_) n f (2 * s) (pass (leR at_) s n g a l)) at_ := by
        intro g
        induction g with
        | zero => intro a l h1 h2 h3; omega
        | succ g ih =>
          intro a l h1 h2 h3
          have e3 : IntKind.wrap .i64 ((a : Int) + (s : Int)) = ((a + s : Nat) : Int) := by rw [wrap64 (by omega) (by omega)]; omega
          have e4 : IntKind.wrap .i64 (((a + 2 * s : Nat) : Int) + ((2 * s : Nat) : Int)) = ((a + 2 * s + 2 * s : Nat) : Int) := by rw [wrap64 (by omega) (by omega)]; omega
          rw [L_slices_stableCmpFunc_api_Val_o2_3_eq, e3]
          unfold pass
          by_cases c1 : a + 2 * s ≤ n
          · have hm := w_symMerge at_ (2 * s) a (a + s) (a + 2 * s) l (by omega) (by omega) (by omega) (by omega) (by omega)
            unfold symW at hm
            rw [decide_eq_true (by omega), cond_true, if_pos c1, hm]
            simp only [tells, Option.bind_some, k_c4d914_mk, e1, e4]
            exact ih (a + 2 * s) _ (by omega) c1 (by rw [symF_len]; exact h3)
          · rw [decide_eq_false (by omega), cond_false, if_neg c1]
            by_cases c2 : a + s < n
            · have hm := w_symMerge at_ (n - a) a (a + s) n l (by omega) (by omega) (by omega) (by omega) (by omega)
              unfold symW at hm
              rw [lt_len c2, cond_true, if_pos c2, hm]
              simp only [tells, Option.bind_some, k_c4d914_mk, e2]
              exact stL_loop at_ n hn f (2 * s) _ (by omega) (by omega) (by omega) (by rw [symF_len]; exact h3)
            · rw [decide_eq_false (by omega), cond_false, if_neg c2, e2]
              exact stL_loop at_ n hn f (2 * s) l (by omega) (by omega) (by omega) h3
      have := key (n + 1) 0 l (by omega) (by omega) hl
      rw [Nat.zero_add] at this
      exact this
    · rw [decide_eq_false (by omega), cond_false, if_neg c]; rfl
theorem blk_loop (at_ : Int) (n : Nat) (hn : n ≤ 1000000000) : ∀ (f a : Nat) (l : List (List Val)), n < a + f → a ≤ n → l.length = n →
    L_slices_stableCmpFunc_api_Val_o2_1 (n : Int) 20 (a : Int) ((a + 20 : Nat) : Int) (l.map rowp) at_ = tells (stL (leR at_) n n 20 (blk1 (leR at_) n f a l)) at_
  | 0, a, l, h, ha, hl => by omega
  | f + 1, a, l, h, ha, hl => by
    rw [L_slices_stableCmpFunc_api_Val_o2_1_eq]
    unfold blk1
    by_cases c : a + 20 ≤ n
    · have hi := w_insertion at_ a (a + 20) l (by omega) (by omega) (by omega)
      rw [decide_eq_true (by omega), cond_true, if_pos c, hi]
      have e1 : IntKind.wrap .i64 (((a + 20 : Nat) : Int) + 20) = ((a + 20 + 20 : Nat) : Int) := by rw [wrap64 (by omega) (by omega)]; omega
      simp only [tells, Option.bind_some, k_c4d914_mk, e1]
      exact blk_loop at_ n hn f (a + 20) _ (by omega) c (by unfold insB; rw [insG_len]; exact hl)
    · have hi := w_insertion at_ a n l (by omega) ha (by omega)
      rw [decide_eq_false (by omega), cond_false, if_neg c, hi]
      simp only [tells, Option.bind_some, k_c4d914_mk]
      exact stL_loop at_ n hn n 20 _ (by omega) (by omega) (by omega) (by unfold insB; rw [insG_len]; exact hl)
def sortR (at_ : Int) (l : List (List Val)) : List (List Val) := stL (leR at_) l.length l.length 20 (blk1 (leR at_) l.length (l.length + 1) 0 l)
theorem sortR_spec (at_ : Int) (l : List (List Val)) : Srt (leR at_) (sortR at_ l) ∧ Keeps (leR at_) l (sortR at_ l) := stable_spec (leR at_) (leR_total at_) (leR_trans at_) l
theorem w_SortStable (at_ : Int) (l : List (List Val)) (hl : l.length ≤ 1000000000) :
    W n_slices_SortStableFunc_api_Val_api_Val false [.fx 0 0, .fnv n_bag_Sort_2 [] [.own 1 0]] [.fix 0 0 (l.map rowp), .var false 0 (.pv (.int .i64 at_))] = tells (sortR at_ l) at_ := by
  rw [o_slices_SortStableFunc_api_Val_api_Val_o2_1, o_slices_stableCmpFunc_api_Val_o2_1, List.length_map]
  have := blk_loop at_ l.length hl (l.length + 1) 0 l (by omega) (by omega) rfl
  rw [Nat.zero_add] at this
  simp only [Int.cast_ofNat_Int] at this
  rw [this]
  simp only [tells, Option.bind_some, k_c4d914_mk]
  rfl
theorem some_loop (D E : List PV) (c : List Int) (l : List (List Val)) (hl : l.length ≤ 1000000000) (hr : ∀ x ∈ l, x.length ≤ 4294967296) : ∀ (k i : Nat) (acc : List (List Val)), i + k = l.length → acc.length = i →
    L_bag_some_r0_1 (l.map rowp) (l.length : Int) (i : Int) D E (c.map intp) (acc.map rowp) = some (.agg [.pv (.slice 0 (c.map intp)), .view 0 0 none], [.row false 0 0 ((acc ++ l.drop i).map rowp)])
  | 0, i, acc, h, ha => by
    rw [L_bag_some_r0_1_eq, show i = l.length by omega]
    simp only [ge_len, cond_false, List.drop_length, List.append_nil]
  | k + 1, i, acc, h, ha => by
    have hi : i < l.length := by omega
    rw [L_bag_some_r0_1_eq]
    have hc := x_slices_Clone_api_Val_api_Val (l[i].map Val.pv) (by rw [List.length_map]; exact hr _ (List.getElem_mem hi))
    have hb := e_bag_Sort_1 (l[i].map Val.pv)
    rw [rowp_fold] at hc hb
    simp only [lt_len hi, nat_le, cond_true, Int.toNat_natCast, List.getElem?_map, List.getElem?_eq_getElem hi, Option.map_some, Option.bind_some, c_rowp, rowp_fold, hb, hc, c_b_mk, List.length_map, Bool.true_and, decide_eq_true (show acc.length + 1 ≤ 4294967296 by omega)]
    rw [wrap_succ (by omega)]
    have := some_loop D E c l hl hr k (i + 1) (acc ++ [l[i]]) (by omega) (by simp [ha])
    rw [List.map_append] at this
    rw [show [rowp l[i]] = [l[i]].map rowp from rfl, this, List.drop_eq_getElem_cons hi, List.append_assoc]; rfl
def sortB (c : List Int) (r : List (List Val)) (col : Int) : List (List Val) := sortR (idxI c (fun x => col == x)) r
theorem w_Sort (c : List Int) (r : List (List Val)) (col : Int) (hc : c.length ≤ 4294967296) (hl : r.length ≤ 1000000000) (hr : ∀ x ∈ r, x.length ≤ 4294967296) : wc W n_bag_Sort [bagp c r, .int .i64 col] = some (bagp c (sortB c r col)) := by
  have h := e_bag_Sort (c.map intp) (r.map rowp) col
  have h2 := o_bag_some_r0_1 (c.map intp) (r.map rowp)
  have h3 := x_slices_Clone_int_int (c.map intp) (by rw [List.length_map]; exact hc)
  have h4 := some_loop [] [] c r hl hr r.length 0 [] (by omega) rfl
  simp only [List.map_nil, List.nil_append, List.drop_zero] at h4
  rw [h3] at h2
  simp only [Option.bind_some, c_s0_mk, List.length_map] at h2
  rw [show ((0 : Nat) : Int) = 0 from rfl] at h4
  rw [h4] at h2
  rw [intsp_fold, tabp_fold, bagp_fold] at h h2
  rw [h, h2, w_Index c col (by omega)]
  unfold intsp
  simp only [Option.bind_some, k_8de13e_mk, c_i64_mk]
  rw [w_SortStable _ r hl]
  simp only [tells, Option.bind_some, k_c4d914_mk]
  rfl
theorem w_Sorted1 (r s : List Val) (at_ : Int) : W n_bag_Sorted_1 false [.pv (rowp r), .pv (rowp s), .own 0 0] [.var false 0 (.pv (.int .i64 at_))] = some (.pv (.int .i64 (cmpB (keyR at_ r) (keyR at_ s))), [.var false 0 (.pv (.int .i64 at_))]) := by
  have h := o_bag_Sorted_1_o1_1 (r.map Val.pv) (s.map Val.pv) at_
  rw [rowp_fold, rowp_fold, w_of, w_of] at h
  have c := w_compare (keyR at_ r) (keyR at_ s)
  simp only [Option.bind_some, c_g_i64_i64_mk, c, c_i64_mk] at h
  exact h
def ordB (at_ : Int) : List (List Val) → Bool
  | [] => true
  | [_] => true
  | x :: y :: r => leR at_ x y && ordB at_ (y :: r)
theorem ordB_iff (at_ : Int) : ∀ (l : List (List Val)), ordB at_ l = true ↔ Srt (leR at_) l
  | [] => by simp [ordB]
  | [x] => by simp [ordB]
  | x :: y :: r => by
    unfold ordB
    rw [Bool.and_eq_true, ordB_iff at_ (y :: r)]
    constructor
    · rintro ⟨h1, h2⟩
      refine List.pairwise_cons.2 ⟨fun z hz => ?_, h2⟩
      rcases List.mem_cons.1 hz with rfl | hz
      · exact h1
      · exact leR_trans at_ _ _ _ h1 ((List.pairwise_cons.1 h2).1 z hz)
    · intro h
      have := List.pairwise_cons.1 h
      exact ⟨this.1 y (by simp), this.2⟩
theorem sorted_loop (at_ : Int) (l : List (List Val)) (hl : l.length ≤ 1000000000) : ∀ (i : Nat), i < l.length → ordB at_ (l.drop i) = true →
    L_slices_IsSortedFunc_api_Val_api_Val_o1_1 (l.map rowp) (i : Int) at_ = some (.pv (.bool (ordB at_ l)), [.var false 0 (.pv (.int .i64 at_))])
  | 0, h, ho => by
    rw [L_slices_IsSortedFunc_api_Val_api_Val_o1_1_eq]
    rw [List.drop_zero] at ho
    rw [ho]; rfl
  | i + 1, h, ho => by
    have hi : i < l.length := by omega
    have e1 : IntKind.wrap .i64 (((i + 1 : Nat) : Int) - 1) = (i : Int) := by rw [wrap64 (by omega) (by omega)]; omega
    have hb := w_Sorted1 l[i + 1] l[i] at_
    rw [L_slices_IsSortedFunc_api_Val_api_Val_o1_1_eq, decide_eq_true (show ((i + 1 : Nat) : Int) > 0 by omega)]
    simp only [e1, cond_true, nat_le, Int.toNat_natCast, List.getElem?_map, List.getElem?_eq_getElem h, List.getElem?_eq_getElem hi, Option.map_some, Option.bind_some, c_rowp, rowp_fold, hb, k_5b106d_mk, c_i64_mk]
    have hd : ordB at_ (l.drop i) = (leR at_ l[i] l[i + 1] && ordB at_ (l.drop (i + 1))) := by
      rw [List.drop_eq_getElem_cons hi, List.drop_eq_getElem_cons h]; rfl
    cases hc : decide (cmpB (keyR at_ l[i + 1]) (keyR at_ l[i]) < 0) with
    | true =>
      have hle : leR at_ l[i] l[i + 1] = false := by unfold leR; rw [hc]; rfl
      have hno : ordB at_ l = false := by
        rw [Bool.eq_false_iff]
        intro ht
        have := (ordB_iff at_ l).1 ht
        have := (ordB_iff at_ (l.drop i)).2 (this.sublist (List.drop_sublist _ _))
        rw [hd, hle] at this; cases this
      rw [hno]; rfl
    | false =>
      have hle : leR at_ l[i] l[i + 1] = true := by unfold leR; rw [hc]; rfl
      simp only [cond_false]
      exact sorted_loop at_ l hl i hi (by rw [hd, hle, ho]; rfl)
theorem w_Sorted (c : List Int) (r : List (List Val)) (col : Int) (hc : c.length ≤ 9223372036854775807) (hl : r.length ≤ 1000000000) : wc W n_bag_Sorted [bagp c r, .int .i64 col] = some (.bool (ordB (idxI c (fun x => col == x)) r)) := by
  have h := e_bag_Sorted (c.map intp) (r.map rowp) col
  rw [intsp_fold, tabp_fold, bagp_fold] at h
  rw [h, w_Index c col hc]
  simp only [Option.bind_some, c_i64_mk]
  have h2 := o_slices_IsSortedFunc_api_Val_api_Val_o1_1 (r.map rowp) (idxI c (fun x => col == x))
  rw [tabp_fold, List.length_map] at h2
  rw [h2]
  rcases Nat.eq_zero_or_pos r.length with h0 | h0
  · have : r = [] := List.length_eq_zero_iff.1 h0
    subst this
    rw [L_slices_IsSortedFunc_api_Val_api_Val_o1_1_eq]
    rfl
  · have e1 : IntKind.wrap .i64 ((r.length : Int) - 1) = ((r.length - 1 : Nat) : Int) := by rw [wrap64 (by omega) (by omega)]; omega
    rw [e1, sorted_loop _ r hl (r.length - 1) (by omega) (by
      rw [List.drop_eq_getElem_cons (by omega), List.drop_of_length_le (by omega)]; rfl)]
    simp only [Option.bind_some, k_5b106d_mk, c_b_mk]
end Go.Cf

namespace Go.Cf
open Go Go.Ab
set_option linter.unusedVariables false
set_option linter.unusedSimpArgs false
abbrev Ky := Int × Int
abbrev GM := List (Ky × List (List Val))
def mpG (m : GM) : List (PV × PV) := m.map fun x => (keyP x.1, tabp x.2)
@[simp] theorem keyP_fold (k : Ky) : PV.agg [.int .i64 k.1, .int .i64 k.2] = keyP k := rfl
@[simp] theorem keyP_mk (k : Ky) {R : Type} (f : Int → Int → Option R) : c_g_i64_i64 (keyP k) f = f k.1 k.2 := rfl
theorem eqK (a b : Ky) : eqP cfg 6 84 (keyP a) (keyP b) = some (decide (a = b)) := by
  have h : eqP cfg 6 84 (keyP a) (keyP b) = (bif (a.1 == b.1) then (bif (a.2 == b.2) then some true else some false) else some false) := by rfl
  rw [h]
  obtain ⟨a1, a2⟩ := a
  obtain ⟨b1, b2⟩ := b
  simp only [Prod.mk.injEq]
  rw [Bool.decide_and]
  show _ = some ((a1 == b1) && (a2 == b2))
  cases a1 == b1 <;> cases a2 == b2 <;> rfl
theorem sameK (a : Ky) : sameP (keyP a) (keyP a) = true := by
  show (sameC _ _ && _) = true
  simp [sameC, sameCs]
def putG (k : Ky) (x : List Val) : GM → GM
  | [] => [(k, [x])]
  | y :: r => if k = y.1 then (y.1, y.2 ++ [x]) :: r else y :: putG k x r
def getG (k : Ky) : GM → Option (List (List Val))
  | [] => none
  | y :: r => if k = y.1 then some y.2 else getG k r
theorem mfind_G (k : Ky) : ∀ m : GM, mfind (eqP cfg 6 84) (keyP k) (mpG m) = some ((getG k m).map tabp)
  | [] => rfl
  | y :: r => by
    show mfind (eqP cfg 6 84) (keyP k) ((keyP y.1, tabp y.2) :: mpG r) = _
    simp only [mfind, eqK, Option.bind_some, getG]
    by_cases h : k = y.1
    · rw [decide_eq_true h, if_pos h]; rfl
    · rw [decide_eq_false h, if_neg h]; exact mfind_G k r
def idxG (k : Ky) : GM → Nat
  | [] => 0
  | y :: r => if k = y.1 then 0 else idxG k r + 1
theorem gidx_G (k : Ky) : ∀ m : GM, gidx (eqP cfg 6 84) (keyP k) (mpG m) = some (idxG k m)
  | [] => rfl
  | y :: r => by
    show gidx (eqP cfg 6 84) (keyP k) ((keyP y.1, tabp y.2) :: mpG r) = _
    simp only [gidx, eqK, Option.bind_some, idxG]
    by_cases h : k = y.1
    · rw [decide_eq_true h, if_pos h, ← h, sameK]; rfl
    · rw [decide_eq_false h, if_neg h, cond_false, gidx_G k r]; rfl
theorem grow_G (k : Ky) : ∀ m : GM, grow_ 0 (idxG k m) (mpG m) = some (((getG k m).getD []).map rowp)
  | [] => rfl
  | y :: r => by
    simp only [idxG, getG]
    by_cases h : k = y.1
    · rw [if_pos h, if_pos h]; rfl
    · rw [if_neg h, if_neg h]
      have := grow_G k r
      unfold grow_ at this ⊢
      show (match (mpG r)[idxG k r]? with | none => some [] | some e => e.2.asSlice 0) = _
      exact this
theorem put_G (k : Ky) (x : List Val) : ∀ m : GM, gset (.slice 0 ((((getG k m).getD []).map rowp) ++ [rowp x])) (idxG k m) (gput (keyP k) 0 (idxG k m) (mpG m)) = mpG (putG k x m)
  | [] => rfl
  | y :: r => by
    simp only [idxG, getG, putG]
    by_cases h : k = y.1
    · rw [if_pos h, if_pos h, if_pos h]
      have e : gput (keyP k) 0 0 (mpG (y :: r)) = (keyP k, tabp y.2) :: mpG r := by
        unfold gput
        rw [decide_eq_true (by show 0 < (mpG (y :: r)).length; simp [mpG])]; rfl
      rw [e]
      unfold gset
      show (keyP k, PV.slice 0 (y.2.map rowp ++ [rowp x])) :: mpG r = (keyP y.1, tabp (y.2 ++ [x])) :: mpG r
      rw [h]; unfold tabp; rw [List.map_append]; rfl
    · rw [if_neg h, if_neg h, if_neg h]
      have ih := put_G k x r
      have e : gput (keyP k) 0 (idxG k r + 1) (mpG (y :: r)) = (keyP y.1, tabp y.2) :: gput (keyP k) 0 (idxG k r) (mpG r) := by
        unfold gput
        have hl : (mpG (y :: r)).length = (mpG r).length + 1 := by simp [mpG]
        by_cases hlt : idxG k r < (mpG r).length
        · rw [decide_eq_true (by omega), decide_eq_true hlt]; rfl
        · rw [decide_eq_false (by omega), decide_eq_false hlt]; rfl
      rw [e]
      have e2 : ∀ v, gset v (idxG k r + 1) ((keyP y.1, tabp y.2) :: gput (keyP k) 0 (idxG k r) (mpG r)) = (keyP y.1, tabp y.2) :: gset v (idxG k r) (gput (keyP k) 0 (idxG k r) (mpG r)) := fun v => by unfold gset; rfl
      rw [e2, ih]; rfl
def foldG (at_ : Int) : List (List Val) → GM → GM
  | [], m => m
  | x :: r, m => foldG at_ r (putG (keyR at_ x) x m)
def keysG (at_ : Int) : List (List Val) → GM → List Ky → List Ky
  | [], _, ks => ks
  | x :: r, m, ks => keysG at_ r (putG (keyR at_ x) x m) (if getG (keyR at_ x) m = none then ks ++ [keyR at_ x] else ks)
def ne1 (m : GM) : Prop := ∀ x ∈ m, x.2 ≠ []
theorem putG_ne {k : Ky} {x : List Val} : ∀ {m : GM}, ne1 m → ne1 (putG k x m)
  | [], _ => fun y hy => by simp [putG] at hy; subst hy; simp
  | z :: r, h => fun y hy => by
    unfold putG at hy
    split at hy
    · rcases List.mem_cons.1 hy with rfl | hy
      · simp
      · exact h y (by simp [hy])
    · rcases List.mem_cons.1 hy with rfl | hy
      · exact h y (by simp)
      · exact putG_ne (fun w hw => h w (by simp [hw])) y hy
theorem getG_ne {k : Ky} : ∀ {m : GM}, ne1 m → ∀ l, getG k m = some l → l ≠ []
  | [], _, l, h => by cases h
  | z :: r, hm, l, h => by
    unfold getG at h
    split at h
    · simp only [Option.some.injEq] at h; subst h; exact hm z (by simp)
    · exact getG_ne (fun w hw => hm w (by simp [hw])) l h
theorem keysG_len (at_ : Int) : ∀ (r : List (List Val)) (m : GM) (ks : List Ky), (keysG at_ r m ks).length ≤ ks.length + r.length
  | [], _, ks => by simp [keysG]
  | x :: r, m, ks => by
    unfold keysG
    refine Nat.le_trans (keysG_len at_ r _ _) ?_
    split <;> simp <;> omega
def sizeG : GM → Nat
  | [] => 0
  | y :: r => y.2.length + sizeG r
theorem sizeG_put (k : Ky) (x : List Val) : ∀ m, sizeG (putG k x m) = sizeG m + 1
  | [] => rfl
  | y :: r => by
    unfold putG
    split
    · simp only [sizeG, List.length_append, List.length_singleton]; omega
    · simp only [sizeG, sizeG_put k x r]; omega
theorem getG_size (k : Ky) : ∀ m l, getG k m = some l → l.length ≤ sizeG m
  | [], l, h => by cases h
  | y :: r, l, h => by
    unfold getG at h
    split at h
    · simp only [Option.some.injEq] at h; subst h; simp [sizeG]
    · have := getG_size k r l h; simp only [sizeG]; omega
theorem group2 (by_ at_ : Int) (sums : List PV) (c : List PV) (B : List PV) (R : GM → List Ky → Option PV) (r : List (List Val)) (hr : r.length ≤ 1000000000)
    (hR : ∀ (m : GM) (ks : List Ky), ks.length ≤ r.length → (W n_slices_SortFunc_bag_key_bag_key false [(AV.fx 0 3), (AV.pv (.fn n_bag_compare [] []))] [(Ob.fix 0 3 (ks.map keyP))]).bind (fun v45 => k_a0f1d3 v45 fun v46 v47 => L_bag_Group_4 sums c B (sums.length : Int) 0 (mpG m) [] v47 [(.int .i64 by_), (.int .i64 16)] [] [] []) = R m ks) :
    ∀ (k i : Nat) (m : GM) (ks : List Ky), i + k = r.length → ks.length ≤ i → sizeG m = i → ne1 m →
    L_bag_Group_2 by_ sums c B at_ (r.map rowp) (r.length : Int) (i : Int) (mpG m) [] (ks.map keyP) = R (foldG at_ (r.drop i) m) (keysG at_ (r.drop i) m ks)
  | 0, i, m, ks, h, hk, hs, hn => by
    rw [L_bag_Group_2_eq, show i = r.length by omega]
    simp only [ge_len, cond_false, List.drop_length, foldG, keysG]
    exact hR m ks (by omega)
  | k + 1, i, m, ks, h, hk, hs, hn => by
    have hi : i < r.length := by omega
    rw [L_bag_Group_2_eq, List.drop_eq_getElem_cons hi, foldG, keysG]
    have hget : ∀ o : Option (List (List Val)), PV.asSlice 0 ((o.map tabp).getD (.slice 0 [])) = some ((o.getD []).map rowp) := fun o => by cases o <;> rfl
    simp only [lt_len hi, nat_le, cond_true, Int.toNat_natCast, List.getElem?_map, List.getElem?_eq_getElem hi, Option.map_some, Option.bind_some, c_rowp, rowp_fold, w_of, c_g_i64_i64_mk, keyP_fold, keyP_mk, mfind_G, hget, List.length_map]
    have step : ∀ (ks' : List Ky), ks'.length ≤ i + 1 → J_bag_Group_3 by_ sums c B at_ (r[i].map Val.pv) (r.map rowp) (r.length : Int) (i : Int) (mpG m) [] (ks'.map keyP) (keyR at_ r[i]).1 (keyR at_ r[i]).2 = R (foldG at_ (r.drop (i + 1)) (putG (keyR at_ r[i]) r[i] m)) (keysG at_ (r.drop (i + 1)) (putG (keyR at_ r[i]) r[i] m) ks') := fun ks' hk' => by
      have hsz : ((getG (keyR at_ r[i]) m).getD []).length ≤ i := by
        cases hg : getG (keyR at_ r[i]) m with
        | none => simp
        | some l => have := getG_size _ _ _ hg; simpa [hs] using this
      rw [J_bag_Group_3_eq]
      simp only [keyP_fold, gidx_G, grow_G, Option.bind_some, List.length_map, rowp_fold, put_G, decide_true, Bool.and_self, cond_true, Bool.true_and, decide_eq_true (show ((getG (keyR at_ r[i]) m).getD []).length + 1 ≤ 4294967296 by omega)]
      rw [wrap_succ (by omega)]
      exact group2 by_ at_ sums c B R r hr hR k (i + 1) _ ks' (by omega) hk' (by rw [sizeG_put, hs]) (putG_ne hn)
    cases hg : getG (keyR at_ r[i]) m with
    | none =>
      have := step (ks ++ [keyR at_ r[i]]) (by simp; omega)
      rw [List.map_append] at this
      simp only [Option.getD_none, List.length_nil, Int.natCast_zero, beq_self_eq_true, cond_true, Bool.true_and, if_true, decide_eq_true (show ks.length + 1 ≤ 4294967296 by omega)]
      exact this
    | some l =>
      have hl := getG_ne hn l hg
      have hpos : 0 < l.length := List.length_pos_iff.2 hl
      have := step ks (by omega)
      simp only [Option.getD_some, if_neg (show ¬ (some l = none) by simp)]
      rw [beq_f (by omega), cond_false]
      exact this
theorem group4 (sums : List Int) (c B : List PV) (m : List (PV × PV)) (h1 l55 l57 l58 l59 : List PV) (hs : sums.length ≤ 100) : ∀ (k i : Nat) (acc : List Int), i + k = sums.length → acc.length ≤ 2 + i →
    L_bag_Group_4 (sums.map intp) c B (sums.length : Int) (i : Int) m h1 l55 (acc.map intp) l57 l58 l59 = L_bag_Group_5 (sums.map intp) c B (l55.length : Int) 0 m h1 l55 ((acc ++ (List.range' (17 + i) k).map fun n : Nat => (n : Int)).map intp) l57 l58 l59
  | 0, i, acc, h, ha => by
    rw [L_bag_Group_4_eq, show i = sums.length by omega]
    simp
  | k + 1, i, acc, h, ha => by
    rw [L_bag_Group_4_eq]
    simp only [lt_len (show i < sums.length by omega), cond_true, List.length_map, Bool.true_and, decide_eq_true (show acc.length + 1 ≤ 4294967296 by omega)]
    rw [wrap_succ (by omega), show IntKind.wrap .i64 ((17 : Int) + (i : Int)) = ((17 + i : Nat) : Int) by rw [wrap64 (by omega) (by omega)]; omega]
    have := group4 sums c B m h1 l55 l57 l58 l59 hs k (i + 1) (acc ++ [((17 + i : Nat) : Int)]) (by omega) (by simp; omega)
    rw [List.map_append] at this
    rw [show [PV.int .i64 ((17 + i : Nat) : Int)] = [((17 + i : Nat) : Int)].map intp from rfl, this, List.range'_succ, List.map_cons, List.append_assoc]; rfl
def colG (c : List Int) (rows : List (List Val)) (s : Int) : Val := sumV (rows.map fun x => lookR c x s)
def rowG (c : List Int) (sums : List Int) (k : Ky) (rows : List (List Val)) : List Val := ⟨k.1, k.2⟩ :: ⟨0, (rows.length : Int)⟩ :: sums.map (colG c rows)
theorem group7 (sums : List PV) (c : List Int) (s : Int) (hin : inC c s = true) (rows : List (List Val)) (hw : ∀ x ∈ rows, x.length = c.length ∧ ROk x) (hl : rows.length ≤ 1000000000) (B : List PV) (A : List PV) (n5 i5 n6 i6 : Int) (m : List (PV × PV)) (h1 l55 l56 l57 l58 l59 : List PV) (a b : Int) (row : List Val) (hrow : row.length ≤ 1000) :
    ∀ (k i : Nat) (acc : List Val), i + k = rows.length → acc = (rows.take i).map (fun x => lookR c x s) →
    L_bag_Group_7 sums (c.map intp) B (idxI c (fun y => s == y)) n5 i5 A n6 i6 (tabp rows) (rows.length : Int) (i : Int) m h1 l55 l56 l57 l58 l59 a b (row.map Val.pv) (acc.map Val.pv) =
      L_bag_Group_6 sums (c.map intp) B n5 i5 A n6 (IntKind.wrap .i64 (i6 + 1)) m h1 l55 l56 l57 l58 l59 a b ((row ++ [colG c rows s]).map Val.pv)
  | 0, i, acc, h, ha => by
    have hi : i = rows.length := by omega
    subst hi
    rw [List.take_length] at ha
    rw [L_bag_Group_7_eq]
    have hok : ROk acc := by
      subst ha
      intro v hv
      obtain ⟨x, hx, rfl⟩ := List.mem_map.1 hv
      exact lookR_ok c (hw x hx).2 s
    have hs := w_Sum acc hok (by subst ha; rw [List.length_map]; omega)
    simp only [ge_len, cond_false, rowp_fold, hs, Option.bind_some, Val.c_mk, List.length_map, Bool.true_and, decide_eq_true (show row.length + 1 ≤ 4294967296 by omega), cond_true, Val.fold]
    subst ha
    rw [List.map_append]; rfl
  | k + 1, i, acc, h, ha => by
    have hi : i < rows.length := by omega
    have hx := hw _ (List.getElem_mem hi)
    obtain ⟨h1', h2'⟩ := lookR_in hin hx.1
    rw [L_bag_Group_7_eq]
    have hal : acc.length = i := by subst ha; rw [List.length_map, List.length_take]; omega
    simp only [lt_len hi, nat_le, cond_true, Int.toNat_natCast, tabp, PV.asSlice, BEq.rfl, List.getElem?_map, List.getElem?_eq_getElem hi, Option.map_some, Option.bind_some, c_rowp, decide_eq_true h2', h1', Val.c_mk, List.length_map, Bool.true_and, decide_eq_true (show acc.length + 1 ≤ 4294967296 by omega), Val.fold]
    rw [wrap_succ (by omega)]
    have := group7 sums c s hin rows hw hl B A n5 i5 n6 i6 m h1 l55 l56 l57 l58 l59 a b row hrow k (i + 1) (acc ++ [lookR c rows[i] s]) (by omega) (by rw [ha, ← List.take_append_getElem hi, List.map_append]; rfl)
    rw [List.map_append] at this
    exact this
theorem group6 (sums : List Int) (c : List Int) (hin : ∀ s ∈ sums, inC c s = true) (hs : sums.length ≤ 100) (hc : c.length ≤ 9223372036854775807) (rows : List (List Val)) (hw : ∀ x ∈ rows, x.length = c.length ∧ ROk x) (hl : rows.length ≤ 1000000000) (B : List PV) (n5 i5 : Int) (m : GM) (kk : Ky) (hg : getG kk m = some rows) (h1 l55 l56 l57 l58 : List PV) (out : List (List Val)) (ho : out.length ≤ 1000000000) :
    ∀ (k i : Nat) (row : List Val), i + k = sums.length → row = ⟨kk.1, kk.2⟩ :: ⟨0, (rows.length : Int)⟩ :: (sums.take i).map (colG c rows) →
    L_bag_Group_6 (sums.map intp) (c.map intp) B n5 i5 (sums.map intp) (sums.length : Int) (i : Int) (mpG m) h1 l55 l56 l57 l58 (out.map rowp) kk.1 kk.2 (row.map Val.pv) =
      L_bag_Group_5 (sums.map intp) (c.map intp) B n5 (IntKind.wrap .i64 (i5 + 1)) (mpG m) h1 l55 l56 l57 l58 ((out ++ [rowG c sums kk rows]).map rowp)
  | 0, i, row, h, hr => by
    have hi : i = sums.length := by omega
    subst hi
    rw [List.take_length] at hr
    rw [L_bag_Group_6_eq]
    simp only [ge_len, cond_false, List.length_map, Bool.true_and, decide_eq_true (show out.length + 1 ≤ 4294967296 by omega), cond_true, rowp_fold]
    subst hr
    rw [List.map_append]; rfl
  | k + 1, i, row, h, hr => by
    have hi : i < sums.length := by omega
    rw [L_bag_Group_6_eq]
    have hix := w_Index c sums[i] hc
    have hrl : row.length = i + 2 := by subst hr; simp; omega
    simp only [lt_len hi, nat_le, cond_true, Int.toNat_natCast, List.getElem?_map, List.getElem?_eq_getElem hi, Option.map_some, Option.bind_some, c_intp, intsp_fold, hix, c_i64_mk, keyP_fold, mfind_G, hg, Option.getD_some, tabp, PV.asSlice, BEq.rfl, List.length_map]
    have h7 := group7 (sums.map intp) c sums[i] (hin _ (List.getElem_mem hi)) rows hw hl B (sums.map intp) n5 i5 (sums.length : Int) (i : Int) (mpG m) h1 l55 l56 l57 l58 (out.map rowp) kk.1 kk.2 row (by omega) rows.length 0 [] (by omega) (by simp)
    refine h7.trans ?_
    rw [wrap_succ (by omega)]
    exact group6 sums c hin hs hc rows hw hl B n5 i5 m kk hg h1 l55 l56 l57 l58 out ho k (i + 1) (row ++ [colG c rows sums[i]]) (by omega) (by rw [hr, ← List.take_append_getElem hi, List.map_append]; rfl)
theorem group5 (sums : List Int) (c : List Int) (hin : ∀ s ∈ sums, inC c s = true) (hs : sums.length ≤ 100) (hc : c.length ≤ 9223372036854775807) (B : List PV) (m : GM) (ks : List Ky) (hk : ks.length ≤ 1000000000) (hm : ∀ k ∈ ks, ∃ rows, getG k m = some rows ∧ rows.length ≤ 1000000000 ∧ ∀ x ∈ rows, x.length = c.length ∧ ROk x) (h1 l57 l58 : List PV) (cols : List Int) :
    ∀ (k i : Nat) (out : List (List Val)), i + k = ks.length → out.length = i →
    L_bag_Group_5 (sums.map intp) (c.map intp) B (ks.length : Int) (i : Int) (mpG m) h1 (ks.map keyP) (cols.map intp) l57 l58 (out.map rowp) = some (.tup [bagp cols (out ++ (ks.drop i).map fun k => rowG c sums k ((getG k m).getD [])), .bool true])
  | 0, i, out, h, ho => by
    rw [L_bag_Group_5_eq, show i = ks.length by omega]
    simp only [ge_len, cond_false, List.drop_length, List.map_nil, List.append_nil]; rfl
  | k + 1, i, out, h, ho => by
    have hi : i < ks.length := by omega
    obtain ⟨rows, hg, hrl, hw⟩ := hm _ (List.getElem_mem hi)
    rw [L_bag_Group_5_eq]
    have hv := e_val_Of (rows.length : Int)
    simp only [lt_len hi, nat_le, Bool.and_self, cond_true, Int.toNat_natCast, Nat.zero_add, List.length_map, List.getElem?_map, List.getElem?_eq_getElem hi, Option.map_some, Option.bind_some, keyP_mk, keyP_fold, mfind_G, hg, Option.getD_some, tabp, PV.asSlice, BEq.rfl, hv, c_g_i64_i64_mk]
    have h6 := group6 sums c hin hs hc rows hw hrl B (ks.length : Int) (i : Int) m ks[i] hg h1 (ks.map keyP) (cols.map intp) l57 l58 out (by omega) sums.length 0 [⟨ks[i].1, ks[i].2⟩, ⟨0, (rows.length : Int)⟩] (by omega) (by simp)
    refine h6.trans ?_
    rw [wrap_succ (by omega)]
    have := group5 sums c hin hs hc B m ks hk hm h1 l57 l58 cols k (i + 1) (out ++ [rowG c sums ks[i] rows]) (by omega) (by simp [ho])
    rw [this, List.drop_eq_getElem_cons hi, List.map_cons, hg, List.append_assoc]; rfl
end Go.Cf

namespace Go.Cf
open Go Go.Ab
set_option linter.unusedVariables false
set_option linter.unusedSimpArgs false
theorem w_idxInt (l : List Int) (g : Nat) (fs cs : List PV) (f : Int → Bool) (hl : l.length ≤ 9223372036854775807) (hf : ∀ x ∈ l, wc W g (fs ++ [.int .i64 x] ++ cs) = some (.bool (f x))) :
    wc W n_slices_IndexFunc_int_int [intsp l, .fn g fs cs] = some (.int .i64 (idxI l f)) := by
  unfold intsp
  rw [e_slices_IndexFunc_int_int, List.length_map]
  refine loop_idx (fun i => L_slices_IndexFunc_int_int_1 (l.map intp) (.fn g fs cs) l.length i) l f (fun n => some (.int .i64 n)) (fun i hi => ?_) ?_
  · rw [L_slices_IndexFunc_int_int_1_eq]
    simp only [lt_len hi, nat_le, cond_true, Int.toNat_natCast, List.getElem?_map, List.getElem?_eq_getElem hi, Option.map_some, Option.bind_some, c_intp, asFn_mk]
    rw [hf _ (List.getElem_mem hi), wrap64 (by omega) (by omega)]
    simp only [Option.bind_some, c_b_mk]
  · rw [L_slices_IndexFunc_int_int_1_eq]; simp
theorem w_anyInt (l : List Int) (g : Nat) (fs cs : List PV) (f : Int → Bool) (hl : l.length ≤ 9223372036854775807) (hf : ∀ x ∈ l, wc W g (fs ++ [.int .i64 x] ++ cs) = some (.bool (f x))) :
    wc W n_slices_ContainsFunc_int_int [intsp l, .fn g fs cs] = some (.bool (l.any f)) := by
  have h := e_slices_ContainsFunc_int_int (l.map intp) (.fn g fs cs)
  rw [intsp_fold] at h
  rw [h, w_idxInt l g fs cs f hl hf]
  simp [← idxI_any]
theorem w_Contains (l : List Int) (n : Int) (hl : l.length ≤ 9223372036854775807) : wc W n_slices_Contains_int_int [intsp l, .int .i64 n] = some (.bool (inC l n)) := by
  have h := e_slices_Contains_int_int (l.map intp) n
  rw [intsp_fold, w_Index l n hl] at h
  rw [h]
  have h1 : decide (idxI l (fun y => n == y) ≥ 0) = inC l n := by
    have := idxI_lt (c := l) (x := n)
    by_cases hh : idxI l (fun y => n == y) < 0
    · rw [decide_eq_true hh] at this
      rw [decide_eq_false (by omega)]
      cases h2 : inC l n with
      | false => rfl
      | true => rw [h2] at this; cases this
    · rw [decide_eq_false hh] at this
      rw [decide_eq_true (by omega)]
      cases h2 : inC l n with
      | true => rfl
      | false => rw [h2] at this; cases this
  simp only [Option.bind_some, c_i64_mk, h1]
def hasK (at_ : Int) (k : Ky) (x : List Val) : Bool := decide (k = keyR at_ x)
theorem getG_put (k q : Ky) (x : List Val) : ∀ m : GM, getG k (putG q x m) = if k = q then some ((getG k m).getD [] ++ [x]) else getG k m
  | [] => by simp only [putG, getG]; split <;> simp
  | y :: r => by
    by_cases h : q = y.1
    · simp only [putG, if_pos h, getG]
      by_cases hk : k = q
      · rw [if_pos hk, if_pos (hk.trans h), if_pos (hk.trans h)]; rfl
      · rw [if_neg hk, if_neg (fun e => hk (e.trans h.symm)), if_neg (fun e => hk (e.trans h.symm))]
    · simp only [putG, if_neg h, getG]
      by_cases hk : k = y.1
      · rw [if_pos hk, if_pos hk, if_neg (fun e => h (e.symm.trans hk))]
      · rw [if_neg hk, if_neg hk, getG_put k q x r]
theorem getG_fold (at_ : Int) (k : Ky) : ∀ (r : List (List Val)) (m : GM), (getG k (foldG at_ r m)).getD [] = (getG k m).getD [] ++ r.filter (hasK at_ k)
  | [], m => by simp [foldG]
  | x :: r, m => by
    rw [foldG, getG_fold at_ k r, getG_put, List.filter_cons]
    unfold hasK
    by_cases h : k = keyR at_ x
    · rw [if_pos h, decide_eq_true h]; simp
    · rw [if_neg h, decide_eq_false h]; simp
theorem getG_some (at_ : Int) (k : Ky) : ∀ (r : List (List Val)) (m : GM), (getG k (foldG at_ r m) ≠ none) ↔ (getG k m ≠ none ∨ ∃ x ∈ r, k = keyR at_ x)
  | [], m => by simp [foldG]
  | x :: r, m => by
    rw [foldG, getG_some at_ k r, getG_put]
    by_cases h : k = keyR at_ x
    · rw [if_pos h]; simp [h]
    · rw [if_neg h]; simp [h]
theorem keysG_spec (at_ : Int) : ∀ (r : List (List Val)) (m : GM) (ks : List Ky), (∀ k, k ∈ ks ↔ getG k m ≠ none) → ks.Nodup → (keysG at_ r m ks).Nodup ∧ ∀ k, k ∈ keysG at_ r m ks ↔ getG k (foldG at_ r m) ≠ none
  | [], m, ks, h, hn => ⟨hn, h⟩
  | x :: r, m, ks, h, hn => by
    rw [keysG, foldG]
    refine keysG_spec at_ r _ _ (fun k => ?_) ?_
    · rw [getG_put]
      by_cases hx : getG (keyR at_ x) m = none
      · rw [if_pos hx, List.mem_append, h k, List.mem_singleton]
        by_cases e : k = keyR at_ x
        · rw [if_pos e]; simp [e]
        · rw [if_neg e]; simp [e]
      · rw [if_neg hx, h k]
        by_cases e : k = keyR at_ x
        · rw [if_pos e, e]; simp [hx]
        · rw [if_neg e]
    · split
      · rename_i hx
        refine List.nodup_append.2 ⟨hn, by simp, fun a ha b hb => ?_⟩
        simp only [List.mem_singleton] at hb
        subst hb
        intro e; subst e
        exact (h _).1 ha hx
      · exact hn
def keysB (at_ : Int) (r : List (List Val)) : List Ky := keysG at_ r [] []
theorem keysB_nodup (at_ : Int) (r : List (List Val)) : (keysB at_ r).Nodup := (keysG_spec at_ r [] [] (fun k => by simp [getG]) (by simp)).1
theorem keysB_mem (at_ : Int) (r : List (List Val)) (k : Ky) : k ∈ keysB at_ r ↔ ∃ x ∈ r, k = keyR at_ x := by
  unfold keysB
  rw [(keysG_spec at_ r [] [] (fun k => by simp [getG]) (by simp)).2 k, getG_some]
  simp [getG]
theorem keysB_get (at_ : Int) (r : List (List Val)) (k : Ky) (h : k ∈ keysB at_ r) : getG k (foldG at_ r []) = some (r.filter (hasK at_ k)) := by
  have h1 := (keysG_spec at_ r [] [] (fun k => by simp [getG]) (by simp)).2 k |>.1 h
  have h2 := getG_fold at_ k r []
  cases hg : getG k (foldG at_ r []) with
  | none => exact absurd hg h1
  | some l => rw [hg] at h2; simpa [getG] using h2
def colsG (by_ : Int) (n : Nat) : List Int := by_ :: 16 :: (List.range' 17 n).map fun n : Nat => (n : Int)
def rowsG (c : List Int) (r : List (List Val)) (by_ : Int) (sums : List Int) : List (List Val) :=
  (sortKeys (keysB (idxI c fun x => by_ == x) r)).map fun k => rowG c sums k (r.filter (hasK (idxI c fun x => by_ == x) k))
def groupB (c : List Int) (r : List (List Val)) (by_ : Int) (sums : List Int) : Option (List Int × List (List Val)) :=
  bif mayB c r && inC c by_ && decide (sums.length ≤ 4) && sums.all (inC c) then some (colsG by_ sums.length, rowsG c r by_ sums) else none
theorem w_Group (c : List Int) (r : List (List Val)) (by_ : Int) (sums : List Int) (hc : c.length ≤ 9223372036854775807) (hr : r.length ≤ 1000000000) (hl : ∀ x ∈ r, x.length ≤ 9223372036854775807) (hok : ∀ x ∈ r, ROk x) :
    wc W n_bag_Group [bagp c r, .int .i64 by_, intsp sums] = some (bagR (groupB c r by_ sums)) := by
  have h := e_bag_Group (c.map intp) (r.map rowp) by_ (sums.map intp)
  rw [intsp_fold, intsp_fold, tabp_fold, bagp_fold] at h
  rw [h, w_Index c by_ hc, w_bag_May c r hc (by omega) hl]
  simp only [Option.bind_some, c_i64_mk, c_b_mk, List.length_map]
  unfold groupB
  cases hm : mayB c r with
  | false => rfl
  | true =>
  simp only [Bool.not_true, cond_false, Bool.true_and, idxI_lt]
  cases hb : inC c by_ with
  | false => rfl
  | true =>
  simp only [Bool.not_true, cond_false, Bool.true_and]
  rcases Nat.lt_or_ge 4 sums.length with hs | hs
  · rw [decide_eq_true (show ((sums.length : Nat) : Int) > 4 by omega), decide_eq_false (show ¬ sums.length ≤ 4 by omega)]; rfl
  rw [decide_eq_false (show ¬ ((sums.length : Nat) : Int) > 4 by omega), decide_eq_true hs]
  have hany := w_anyInt sums n_bag_Group_1 [] [.imm 3 (bagp c r) 0] (fun s => !inC c s) (by omega) (fun s _ => by
    have h1 := e_bag_Group_1 s (c.map intp) (r.map rowp)
    rw [intsp_fold, tabp_fold, bagp_fold, w_Contains c s hc] at h1
    simp only [Option.bind_some, c_b_mk] at h1
    exact h1)
  rw [hany]
  simp only [cond_false, Option.bind_some, c_b_mk, Bool.true_and]
  have ha := any_not sums (inC c)
  cases hall : sums.all (inC c) with
  | false =>
    rw [hall] at ha
    rw [show (sums.any fun s => !inC c s) = true by cases hx : (sums.any fun s => !inC c s) <;> simp_all]; rfl
  | true =>
    rw [hall] at ha
    rw [show (sums.any fun s => !inC c s) = false by cases hx : (sums.any fun s => !inC c s) <;> simp_all]
    simp only [cond_false, cond_true]
    rw [J_bag_Group_1_eq, List.length_map]
    have hmr := mayB_row hm
    have hin : ∀ s ∈ sums, inC c s = true := List.all_eq_true.1 hall
    have key := group2 by_ (idxI c fun x => by_ == x) (sums.map intp) (c.map intp) (r.map rowp) (fun m ks => (W n_slices_SortFunc_bag_key_bag_key false [(AV.fx 0 3), (AV.pv (.fn n_bag_compare [] []))] [(Ob.fix 0 3 (ks.map keyP))]).bind (fun v45 => k_a0f1d3 v45 fun v46 v47 => L_bag_Group_4 (sums.map intp) (c.map intp) (r.map rowp) ((sums.map intp).length : Int) 0 (mpG m) [] v47 [(.int .i64 by_), (.int .i64 16)] [] [] [])) r hr (fun m ks hk => rfl) r.length 0 [] [] (by omega) (by simp) rfl (fun x hx => by simp at hx)
    simp only [List.drop_zero, List.map_nil] at key
    refine key.trans ?_
    have hkl : (keysB (idxI c fun x => by_ == x) r).length ≤ r.length := by have := keysG_len (idxI c fun x => by_ == x) r [] []; simpa [keysB] using this
    have hsk := x_slices_SortFunc_bag_key_bag_key 0 (keysB (idxI c fun x => by_ == x) r) (by omega)
    show (W n_slices_SortFunc_bag_key_bag_key false [(AV.fx 0 3), (AV.pv (.fn n_bag_compare [] []))] [(Ob.fix 0 3 ((keysB (idxI c fun x => by_ == x) r).map keyP))]).bind _ = _
    rw [hsk]
    simp only [Option.bind_some, k_a0f1d3_mk, List.length_map]
    have g4 := group4 sums (c.map intp) (r.map rowp) (mpG (foldG (idxI c fun x => by_ == x) r [])) [] ((sortKeys (keysB (idxI c fun x => by_ == x) r)).map keyP) [] [] [] (by omega) sums.length 0 [by_, 16] (by omega) (by simp)
    have hgk : ∀ k ∈ sortKeys (keysB (idxI c fun x => by_ == x) r), ∃ rows, getG k (foldG (idxI c fun x => by_ == x) r []) = some rows ∧ rows.length ≤ 1000000000 ∧ ∀ x ∈ rows, x.length = c.length ∧ ROk x := fun k hk => by
      have hk' := (sortKeys_perm _).mem_iff.1 hk
      refine ⟨_, keysB_get _ r k hk', Nat.le_trans (List.length_filter_le _ _) hr, fun x hx => ?_⟩
      have hx' := (List.mem_filter.1 hx).1
      exact ⟨(hmr.2.2 x hx').1, hok x hx'⟩
    have g5 := group5 sums c hin (by omega) hc (r.map rowp) (foldG (idxI c fun x => by_ == x) r []) (sortKeys (keysB (idxI c fun x => by_ == x) r)) (by rw [sortKeys_len]; omega) hgk [] [] [] (colsG by_ sums.length) (sortKeys (keysB (idxI c fun x => by_ == x) r)).length 0 [] (by omega) rfl
    simp only [List.length_map] at g4 g5
    refine g4.trans ?_
    refine g5.trans ?_
    show some (PV.tup [bagp (colsG by_ sums.length) _, .bool true]) = some (.tup [bagp (colsG by_ sums.length) (rowsG c r by_ sums), .bool true])
    congr 4
    simp only [List.nil_append, List.drop_zero]
    unfold rowsG
    refine List.map_congr_left fun k hk => ?_
    rw [keysB_get _ r k ((sortKeys_perm _).mem_iff.1 hk)]; rfl
end Go.Cf

namespace Go.Cf
open Go Go.Ab
set_option linter.unusedVariables false
set_option linter.unusedSimpArgs false
theorem mayB_perm {c : List Int} {r s : List (List Val)} (h : r.Perm s) : mayB c r = mayB c s := by
  unfold mayB
  have h1 : r.all (rowB c.length) = s.all (rowB c.length) := by
    rw [Bool.eq_iff_iff, List.all_eq_true, List.all_eq_true]
    exact ⟨fun k x hx => k x (h.mem_iff.2 hx), fun k x hx => k x (h.mem_iff.1 hx)⟩
  rw [h1, h.length_eq]
theorem keysB_perm {at_ : Int} {r s : List (List Val)} (h : r.Perm s) : sortKeys (keysB at_ r) = sortKeys (keysB at_ s) := by
  have hp : (keysB at_ r).Perm (keysB at_ s) := (List.perm_ext_iff_of_nodup (keysB_nodup at_ r) (keysB_nodup at_ s)).2 fun k => by
    rw [keysB_mem, keysB_mem]
    exact ⟨fun ⟨x, hx, e⟩ => ⟨x, h.mem_iff.1 hx, e⟩, fun ⟨x, hx, e⟩ => ⟨x, h.mem_iff.2 hx, e⟩⟩
  exact sorted_one ((sortKeys_perm _).trans (hp.trans (sortKeys_perm _).symm)) (sortKeys_sorted _) (sortKeys_sorted _)
theorem hasK_eqk (at_ : Int) (x : List Val) : hasK at_ (keyR at_ x) = eqk (leR at_) x := by
  funext y
  rw [Bool.eq_iff_iff]
  unfold hasK eqk
  rw [decide_eq_true_eq, Bool.and_eq_true, leR_iff, leR_iff, Prod.ext_iff]
  omega
theorem rowsG_sort (c : List Int) (r : List (List Val)) (by_ : Int) (sums : List Int) : rowsG c (sortB c r by_) by_ sums = rowsG c r by_ sums := by
  obtain ⟨s1, s2⟩ := sortR_spec (idxI c (fun x => by_ == x)) r
  have e1 : sortB c r by_ = sortR (idxI c (fun x => by_ == x)) r := rfl
  unfold rowsG
  rw [e1, keysB_perm s2.perm]
  refine List.map_congr_left fun k hk => ?_
  obtain ⟨x, hx, rfl⟩ := (keysB_mem _ _ _).1 ((sortKeys_perm _).mem_iff.1 hk)
  rw [hasK_eqk, s2.filt]
theorem sum_zero : ∀ l : List Ky, (l.map fun _ => (0 : Nat)).sum = 0
  | [] => rfl
  | _ :: l => by rw [List.map_cons, List.sum_cons, sum_zero l]
theorem hasK_cons (at_ : Int) (x : List Val) (r : List (List Val)) (k : Ky) : ((x :: r).filter (hasK at_ k)).length = (r.filter (hasK at_ k)).length + if k = keyR at_ x then 1 else 0 := by
  rw [List.filter_cons]
  by_cases e : k = keyR at_ x
  · rw [if_pos e, if_pos (show hasK at_ k x = true from decide_eq_true e)]; rfl
  · rw [if_neg e, if_neg (show ¬ hasK at_ k x = true by unfold hasK; rw [decide_eq_false e]; simp)]; rfl
theorem sum_cons (at_ : Int) (x : List Val) (r : List (List Val)) : ∀ (l : List Ky), l.Nodup → (l.map fun k => ((x :: r).filter (hasK at_ k)).length).sum = (l.map fun k => (r.filter (hasK at_ k)).length).sum + if keyR at_ x ∈ l then 1 else 0
  | [], _ => by simp
  | k :: l, hl => by
    have h2 := List.nodup_cons.1 hl
    rw [List.map_cons, List.sum_cons, List.map_cons, List.sum_cons, sum_cons at_ x r l h2.2, hasK_cons]
    by_cases e : k = keyR at_ x
    · have h3 : keyR at_ x ∉ l := by rw [← e]; exact h2.1
      rw [if_pos e, if_neg h3, if_pos (show keyR at_ x ∈ k :: l by rw [e]; exact List.mem_cons_self)]; omega
    · rw [if_neg e]
      by_cases e2 : keyR at_ x ∈ l
      · rw [if_pos e2, if_pos (List.mem_cons_of_mem _ e2)]; omega
      · rw [if_neg e2, if_neg (show ¬ keyR at_ x ∈ k :: l by simp only [List.mem_cons, not_or]; exact ⟨fun q => e q.symm, e2⟩)]; omega
theorem sum_keys (at_ : Int) (ks : List Ky) (hn : ks.Nodup) : ∀ (r : List (List Val)), (∀ x ∈ r, keyR at_ x ∈ ks) → (ks.map fun k => (r.filter (hasK at_ k)).length).sum = r.length
  | [], _ => sum_zero ks
  | x :: r, h => by
    rw [sum_cons at_ x r ks hn, sum_keys at_ ks hn r (fun y hy => h y (by simp [hy])), if_pos (h x (by simp))]; rfl
theorem keyR_may {c : List Int} {r : List (List Val)} {by_ : Int} (hm : mayB c r = true) (hb : inC c by_ = true) {x : List Val} (hx : x ∈ r) : mayV ⟨(keyR (idxI c fun y => by_ == y) x).1, (keyR (idxI c fun y => by_ == y) x).2⟩ = true := by
  have h1 := (mayB_row hm).2.2 x hx
  obtain ⟨h2, h3⟩ := lookR_in hb h1.1
  unfold keyR
  rw [decide_eq_false (by omega), cond_false, h2]
  have hv : mayV (lookR c x by_) = true := List.all_eq_true.1 h1.2 _ (List.mem_of_getElem? h2)
  simp only [hv, cond_true]
theorem keyR_rowG (c sums : List Int) (k : Ky) (rows : List (List Val)) (h : mayV ⟨k.1, k.2⟩ = true) : keyR 0 (rowG c sums k rows) = k := by
  unfold keyR rowG
  simp [h]
theorem rowsG_sorted {c : List Int} {r : List (List Val)} {by_ : Int} (hm : mayB c r = true) (hb : inC c by_ = true) (sums : List Int) : ordB 0 (rowsG c r by_ sums) = true := by
  rw [ordB_iff]
  unfold rowsG
  refine List.pairwise_map.2 ?_
  have hs := sortKeys_sorted (keysB (idxI c fun x => by_ == x) r)
  have hmem : ∀ k ∈ sortKeys (keysB (idxI c fun x => by_ == x) r), mayV ⟨k.1, k.2⟩ = true := fun k hk => by
    obtain ⟨x, hx, rfl⟩ := (keysB_mem _ _ _).1 ((sortKeys_perm _).mem_iff.1 hk)
    exact keyR_may hm hb hx
  refine hs.imp_of_mem fun {a b} ha hb' h => ?_
  unfold leR
  rw [keyR_rowG _ _ _ _ (hmem a ha), keyR_rowG _ _ _ _ (hmem b hb')]
  exact h
theorem groups_loop (c : List Int) (r : List (List Val)) (by_ : Int) (sums : List Int) (hm : mayB c r = true) (hb : inC c by_ = true) (hr : r.length ≤ 1000) (hs : sums.length ≤ 4) (l43 l44 l49 l50 : List PV) (h44 : l44.length = r.length) :
    ∀ (k i : Nat) (n : Nat), i + k = (rowsG c r by_ sums).length → n = (((sortKeys (keysB (idxI c fun x => by_ == x) r)).take i).map fun k => (r.filter (hasK (idxI c fun x => by_ == x) k)).length).sum → n ≤ 1000 →
    L_roadbooklaw03_BagGroups_3 by_ (sums.map intp) l43 l44 (n : Int) (i : Int) ((colsG by_ sums.length).map intp) ((rowsG c r by_ sums).map rowp) l49 l50 = some (.bool true) := by
  have hlen : (rowsG c r by_ sums).length = (sortKeys (keysB (idxI c fun x => by_ == x) r)).length := by unfold rowsG; rw [List.length_map]
  have hnd : (sortKeys (keysB (idxI c fun x => by_ == x) r)).Nodup := (keysB_nodup _ r).perm (sortKeys_perm _).symm
  have hsum := sum_keys (idxI c fun x => by_ == x) _ hnd r (fun x hx => (sortKeys_perm _).mem_iff.2 ((keysB_mem _ _ _).2 ⟨x, hx, rfl⟩))
  have hkl : (keysB (idxI c fun x => by_ == x) r).length ≤ r.length := by have := keysG_len (idxI c fun x => by_ == x) r [] []; simpa [keysB] using this
  intro k
  induction k with
  | zero =>
    intro i n h hn hn1
    rw [L_roadbooklaw03_BagGroups_3_eq, List.length_map, show i = (rowsG c r by_ sums).length by omega]
    rw [show i = (sortKeys (keysB (idxI c fun x => by_ == x) r)).length by omega, List.take_length, hsum] at hn
    have hw := w_Sorted (colsG by_ sums.length) (rowsG c r by_ sums) by_ (by simp [colsG]; omega) (by rw [hlen, sortKeys_len]; omega)
    have hi0 : idxI (colsG by_ sums.length) (fun x => by_ == x) = 0 := by
      unfold idxI colsG
      rw [List.findIdx?_cons, beq_self_eq_true]; rfl
    rw [hi0, rowsG_sorted hm hb] at hw
    simp only [ge_len, cond_false, h44, hn, beq_self_eq_true, cond_true, intsp_fold, tabp_fold, bagp_fold, hw, Option.bind_some, c_b_mk]
  | succ k ih =>
    intro i n h hn hn1
    have hi : i < (rowsG c r by_ sums).length := by omega
    have hi2 : i < (sortKeys (keysB (idxI c fun x => by_ == x) r)).length := by omega
    have hrow : ∀ j (hj : j < (rowsG c r by_ sums).length), (rowsG c r by_ sums)[j] = rowG c sums (sortKeys (keysB (idxI c fun x => by_ == x) r))[j] (r.filter (hasK (idxI c fun x => by_ == x) (sortKeys (keysB (idxI c fun x => by_ == x) r))[j])) := fun j hj => by
      simp only [rowsG, List.getElem_map]
    have hmemk := (sortKeys_perm _).mem_iff.1 (List.getElem_mem hi2)
    obtain ⟨x, hx, hkx⟩ := (keysB_mem _ _ _).1 hmemk
    have hpos : 0 < (r.filter (hasK (idxI c fun x => by_ == x) (sortKeys (keysB (idxI c fun x => by_ == x) r))[i])).length := List.length_pos_iff.2 fun e => by
      have := List.mem_filter.2 ⟨hx, show hasK (idxI c fun x => by_ == x) (sortKeys (keysB (idxI c fun x => by_ == x) r))[i] x = true from decide_eq_true hkx⟩
      rw [e] at this; cases this
    have htake : ((sortKeys (keysB (idxI c fun x => by_ == x) r)).take (i + 1)).map (fun k => (r.filter (hasK (idxI c fun x => by_ == x) k)).length) = (((sortKeys (keysB (idxI c fun x => by_ == x) r)).take i).map fun k => (r.filter (hasK (idxI c fun x => by_ == x) k)).length) ++ [(r.filter (hasK (idxI c fun x => by_ == x) (sortKeys (keysB (idxI c fun x => by_ == x) r))[i])).length] := by
      rw [← List.take_append_getElem hi2, List.map_append]; rfl
    have hle : ((((sortKeys (keysB (idxI c fun x => by_ == x) r)).take (i + 1)).map fun k => (r.filter (hasK (idxI c fun x => by_ == x) k)).length)).sum ≤ 1000 := by
      have e := List.take_append_drop (i + 1) (sortKeys (keysB (idxI c fun x => by_ == x) r))
      have e2 : ∀ (a b : List Ky) (f : Ky → Nat), ((a ++ b).map f).sum = (a.map f).sum + (b.map f).sum := fun a b f => by rw [List.map_append, List.sum_append]
      have e3 := e2 ((sortKeys (keysB (idxI c fun x => by_ == x) r)).take (i + 1)) ((sortKeys (keysB (idxI c fun x => by_ == x) r)).drop (i + 1)) (fun k => (r.filter (hasK (idxI c fun x => by_ == x) k)).length)
      rw [e, hsum] at e3
      omega
    have hfin : ∀ cnt : Nat, cnt = (r.filter (hasK (idxI c fun x => by_ == x) (sortKeys (keysB (idxI c fun x => by_ == x) r))[i])).length → L_roadbooklaw03_BagGroups_3 by_ (sums.map intp) l43 l44 (IntKind.wrap .i64 ((n : Int) + (cnt : Int))) (IntKind.wrap .i64 ((i : Int) + 1)) ((colsG by_ sums.length).map intp) ((rowsG c r by_ sums).map rowp) l49 l50 = some (.bool true) := fun cnt hc => by
      have hn2 : n + cnt = (((sortKeys (keysB (idxI c fun x => by_ == x) r)).take (i + 1)).map fun k => (r.filter (hasK (idxI c fun x => by_ == x) k)).length).sum := by
        rw [htake, List.sum_append, hn, hc]; simp
      have hle2 : n + cnt ≤ 1000 := by rw [hn2]; exact hle
      rw [wrap_succ (show i < 9223372036854775807 by rw [sortKeys_len] at hi2; omega), show IntKind.wrap .i64 ((n : Int) + (cnt : Int)) = ((n + cnt : Nat) : Int) by rw [wrap64 (by omega) (by omega)]; omega]
      exact ih (i + 1) (n + cnt) (by omega) hn2 hle2
    have h4 : J_roadbooklaw03_BagGroups_4 by_ (sums.map intp) l43 l44 (n : Int) (i : Int) ((colsG by_ sums.length).map intp) ((rowsG c r by_ sums).map rowp) l49 l50 = some (.bool true) := by
      rw [J_roadbooklaw03_BagGroups_4_eq]
      simp only [nat_le, cond_true, Int.toNat_natCast, List.getElem?_map, List.getElem?_eq_getElem hi, Option.map_some, Option.bind_some, c_rowp, hrow i hi, rowG, List.getElem?_cons_zero, List.getElem?_cons_succ]
      exact hfin _ rfl
    rw [L_roadbooklaw03_BagGroups_3_eq]
    have hlr : (rowG c sums (sortKeys (keysB (idxI c fun x => by_ == x) r))[i] (r.filter (hasK (idxI c fun x => by_ == x) (sortKeys (keysB (idxI c fun x => by_ == x) r))[i]))).length = 2 + sums.length := by simp [rowG]; omega
    simp only [List.length_map, lt_len hi, nat_le, cond_true, Int.toNat_natCast, List.getElem?_map, List.getElem?_eq_getElem hi, Option.map_some, Option.bind_some, c_rowp, hrow i hi, hlr]
    rw [show IntKind.wrap .i64 ((2 : Int) + (sums.length : Int)) = ((2 + sums.length : Nat) : Int) by rw [wrap64 (by omega) (by omega)]; omega, bne_f rfl, cond_false]
    have hone : ∀ (k : Ky) (rows : List (List Val)), (rowG c sums k rows)[1]? = some ⟨0, (rows.length : Int)⟩ := fun k rows => rfl
    have hl1 : ∀ v : Val, PV.load 3 v.pv 1 0 = some (.int .i64 v.N) := fun v => rfl
    simp only [hone, Option.map_some, Option.bind_some, hl1, c_i64_mk]
    rw [decide_eq_false (show ¬ (((r.filter (hasK (idxI c fun x => by_ == x) (sortKeys (keysB (idxI c fun x => by_ == x) r))[i])).length : Nat) : Int) < 1 by omega), cond_false]
    rcases Nat.eq_zero_or_pos i with h0 | h0
    · subst h0
      rw [decide_eq_false (by omega), cond_false]; exact h4
    · have hik : i ≤ 1000 := by
        have := hi2
        rw [sortKeys_len] at this; omega
      have hi1 : i - 1 < (rowsG c r by_ sums).length := by omega
      have hi3 : i - 1 < (sortKeys (keysB (idxI c fun x => by_ == x) r)).length := by omega
      have e1 : IntKind.wrap .i64 ((i : Int) - 1) = ((i - 1 : Nat) : Int) := by rw [wrap64 (by omega) (by omega)]; omega
      rw [decide_eq_true (by omega), cond_true, e1]
      have hz : ∀ (k : Ky) (rows : List (List Val)), (rowG c sums k rows)[0]? = some ⟨k.1, k.2⟩ := fun k rows => rfl
      simp only [nat_le, cond_true, Int.toNat_natCast, List.getElem?_map, List.getElem?_eq_getElem hi1, Option.map_some, Option.bind_some, c_rowp, hrow (i - 1) hi1, hz, Val.c_mk]
      have hne : (sortKeys (keysB (idxI c fun x => by_ == x) r))[i] ≠ (sortKeys (keysB (idxI c fun x => by_ == x) r))[i - 1] := fun e => by
        have := nodup_idx hnd (List.getElem?_eq_getElem hi2) (by rw [e]; exact List.getElem?_eq_getElem hi3)
        omega
      have hbe : (bif (((sortKeys (keysB (idxI c fun x => by_ == x) r))[i]).1 == ((sortKeys (keysB (idxI c fun x => by_ == x) r))[i - 1]).1) then (bif (((sortKeys (keysB (idxI c fun x => by_ == x) r))[i]).2 == ((sortKeys (keysB (idxI c fun x => by_ == x) r))[i - 1]).2) then (some true) else (some false)) else (some false)) = some false := by
        generalize (sortKeys (keysB (idxI c fun x => by_ == x) r))[i] = p at hne
        generalize (sortKeys (keysB (idxI c fun x => by_ == x) r))[i - 1] = q at hne
        by_cases a : p.1 = q.1
        · by_cases b : p.2 = q.2
          · exact absurd (Prod.ext a b) hne
          · rw [beq_t a, beq_f b]; rfl
        · rw [beq_f a]; rfl
      rw [hbe]
      simp only [Option.bind_some, c_b_mk, cond_false]
      exact h4
theorem law_BagGroups (a : List Int × List (List Val)) (by_ : Int) (sums : List Int) (ha : Bag0 a) (hby : I64 by_) (hsums : sums.length ≤ 9223372036854775807 ∧ ∀ n ∈ sums, I64 n) :
    wc W n_roadbooklaw03_BagGroups [bagp a.1 a.2, .int .i64 by_, intsp sums] = some (.bool true) := by
  obtain ⟨c, r⟩ := a
  have h := e_roadbooklaw03_BagGroups (c.map intp) (r.map rowp) by_ (sums.map intp)
  rw [intsp_fold, intsp_fold, tabp_fold, bagp_fold] at h
  have k1 := w_few c r 60 ha.2.1
  simp only [Int.cast_ofNat_Int] at k1
  rw [h, w_awake3, k1]
  simp only [Option.bind_some, c_b_mk, Bool.not_true, cond_false, List.length_map]
  cases hx : fewB c r 60 with
  | false => rfl
  | true =>
  obtain ⟨x1, x2, x3⟩ := fewB_of hx
  simp only [Bool.not_true, cond_false]
  rcases Nat.lt_or_ge 20 sums.length with hl | hl
  · rw [decide_eq_true (show ((sums.length : Nat) : Int) > 20 by omega)]; rfl
  rw [decide_eq_false (show ¬ ((sums.length : Nat) : Int) > 20 by omega)]
  have rr : ∀ x ∈ r, ROk x ∧ x.length ≤ 20 := fun x hx => ⟨(ha.2.2 x hx).2, x3 x hx⟩
  obtain ⟨s1, s2⟩ := sortR_spec (idxI c (fun x => by_ == x)) r
  have e1 : sortB c r by_ = sortR (idxI c (fun x => by_ == x)) r := rfl
  rw [← e1] at s1 s2
  have hsl : (sortB c r by_).length = r.length := s2.perm.length_eq
  have ss : ∀ x ∈ sortB c r by_, ROk x ∧ x.length ≤ 20 := fun x hx => rr x (s2.perm.mem_iff.1 hx)
  have w1 := w_Group c r by_ sums (by omega) (by omega) (fun x hx => by have := (rr x hx).2; omega) (fun x hx => (rr x hx).1)
  have w2 := w_Sort c r by_ (by omega) (by omega) (fun x hx => by have := (rr x hx).2; omega)
  have w3 := w_Group c (sortB c r by_) by_ sums (by omega) (by omega) (fun x hx => by have := (ss x hx).2; omega) (fun x hx => (ss x hx).1)
  have e2 : groupB c (sortB c r by_) by_ sums = groupB c r by_ sums := by
    unfold groupB
    rw [mayB_perm s2.perm, rowsG_sort]
  rw [e2] at w3
  cases hg : mayB c r && inC c by_ && decide (sums.length ≤ 4) && sums.all (inC c) with
  | false =>
    have e3 : groupB c r by_ sums = none := by unfold groupB; rw [hg]; rfl
    rw [e3] at w1 w3
    have w4 := w_Like [] [] [] [] (by simp) (by simp) (by simp)
    simp only [cond_false, J_roadbooklaw03_BagGroups_1_eq, J_roadbooklaw03_BagGroups_2_eq, intsp_fold, tabp_fold, bagp_fold, w1, w2, w3, Option.bind_some, asTup_mk, bagR, List.getElem?_cons_zero, List.getElem?_cons_succ, c_bagp, c_b_mk, beq_self_eq_true, Bool.not_true, cond_false, w4, decide_true, Bool.and_self, Bool.not_false, cond_true]
  | true =>
    have e3 : groupB c r by_ sums = some (colsG by_ sums.length, rowsG c r by_ sums) := by unfold groupB; rw [hg]; rfl
    rw [e3] at w1 w3
    simp only [Bool.and_eq_true, decide_eq_true_eq] at hg
    obtain ⟨⟨⟨g1, g2⟩, g3⟩, g4⟩ := hg
    have hkl : (keysB (idxI c fun x => by_ == x) r).length ≤ r.length := by have := keysG_len (idxI c fun x => by_ == x) r [] []; simpa [keysB] using this
    have hrl : (rowsG c r by_ sums).length ≤ 60 := by unfold rowsG; rw [List.length_map, sortKeys_len]; omega
    have hrw : ∀ x ∈ rowsG c r by_ sums, x.length ≤ 10 := fun x hx => by
      unfold rowsG at hx
      obtain ⟨k, _, rfl⟩ := List.mem_map.1 hx
      simp [rowG]; omega
    have w4 := w_Like (colsG by_ sums.length) (rowsG c r by_ sums) (colsG by_ sums.length) (rowsG c r by_ sums) (by simp [colsG]; omega) (by omega) (fun x hx => by have := hrw x hx; omega)
    have hloop := groups_loop c r by_ sums g1 g2 (by omega) g3 (c.map intp) (r.map rowp) ((colsG by_ sums.length).map intp) ((rowsG c r by_ sums).map rowp) (by simp) (rowsG c r by_ sums).length 0 0 (by omega) (by simp) (by omega)
    simp only [cond_false, J_roadbooklaw03_BagGroups_1_eq, J_roadbooklaw03_BagGroups_2_eq, intsp_fold, tabp_fold, bagp_fold, w1, w2, w3, Option.bind_some, asTup_mk, bagR, List.getElem?_cons_zero, List.getElem?_cons_succ, c_bagp, c_b_mk, beq_self_eq_true, Bool.not_true, cond_false, w4, decide_true, Bool.and_self, Bool.not_false, cond_true]
    exact hloop
end Go.Cf
