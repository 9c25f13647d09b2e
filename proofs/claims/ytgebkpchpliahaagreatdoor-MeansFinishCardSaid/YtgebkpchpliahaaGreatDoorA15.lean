/- Part 16 of the proof: an abstract machine that runs the program's code over plain values, its soundness, and what the functions tell of plain values. Conditions: those in each theorem. -/
import Derived.Test.YtgebkpchpliahaaGreatDoorA14
set_option linter.unusedSectionVars false
namespace Go.Cf
open Go Go.Ab
set_option linter.unusedVariables false
set_option linter.unusedSimpArgs false
theorem half_w (x y : Nat) (h : x + y ≤ 4000000000) : IntKind.wrap .i64 (Int.fdiv (IntKind.wrap .u64 (IntKind.wrap .i64 ((x : Int) + (y : Int)))) 2) = (((x + y) / 2 : Nat) : Int) := by
  rw [wrap64 (n := (x : Int) + y) (by omega) (by omega)]
  have e : IntKind.wrap .u64 ((x : Int) + (y : Int)) = ((x + y : Nat) : Int) := by
    simp only [IntKind.wrap, IntKind.bits, IntKind.signed]
    simp
    omega
  rw [e, show Int.fdiv ((x + y : Nat) : Int) 2 = (((x + y) / 2 : Nat) : Int) by
    rw [Int.fdiv_eq_ediv_of_nonneg _ (by omega)]; omega]
  exact wrap64 (by omega) (by omega)
theorem mvR_loop (at_ : Int) (i : Nat) : ∀ (n k : Nat) (l : List (List Val)), k + n = i - 1 → 0 < i → i ≤ l.length → l.length ≤ 1000000000 →
    L_slices_symMergeCmpFunc_api_Val_o2_4 (i : Int) (k : Int) (l.map rowp) at_ = tells (mvR n k l) at_
  | 0, k, l, h, h0, hi, hl => by
    have e1 : IntKind.wrap .i64 ((i : Int) - 1) = ((i - 1 : Nat) : Int) := by rw [wrap64 (by omega) (by omega)]; omega
    rw [L_slices_symMergeCmpFunc_api_Val_o2_4_eq, e1, decide_eq_false (by omega)]; rfl
  | n + 1, k, l, h, h0, hi, hl => by
    have e1 : IntKind.wrap .i64 ((i : Int) - 1) = ((i - 1 : Nat) : Int) := by rw [wrap64 (by omega) (by omega)]; omega
    have e2 : IntKind.wrap .i64 ((k : Int) + 1) = ((k + 1 : Nat) : Int) := by rw [wrap64 (by omega) (by omega)]; omega
    have h1 : k < l.length := by omega
    have h2 : k + 1 < l.length := by omega
    rw [L_slices_symMergeCmpFunc_api_Val_o2_4_eq]
    simp only [e1, e2, decide_eq_true (show (k : Int) < ((i - 1 : Nat) : Int) by omega), cond_true, nat_le, Bool.true_and, List.length_set, List.length_map, lt_len h1, lt_len h2, Int.toNat_natCast, List.getElem?_map, List.getElem?_eq_getElem h1, List.getElem?_eq_getElem h2, Option.map_some, Option.bind_some, c_rowp, rowp_fold]
    have h3 : k + 1 < ((l.map rowp).set k (rowp l[k + 1])).length := by simpa using h2
    rw [List.getElem?_eq_getElem h3]
    simp only [Option.bind_some]
    rw [sw_map l k (k + 1) h1 h2]
    exact mvR_loop at_ i n (k + 1) (sw l k (k + 1)) (by omega) h0 (by rw [sw_len]; exact hi) (by rw [sw_len]; exact hl)
theorem mvL_loop (at_ : Int) (i : Nat) : ∀ (n k : Nat) (l : List (List Val)), k = i + n → k < l.length → l.length ≤ 1000000000 →
    L_slices_symMergeCmpFunc_api_Val_o2_5 (i : Int) (k : Int) (l.map rowp) at_ = tells (mvL n k l) at_
  | 0, k, l, h, hk, hl => by
    rw [L_slices_symMergeCmpFunc_api_Val_o2_5_eq, decide_eq_false (by omega)]; rfl
  | n + 1, k, l, h, h1, hl => by
    have e2 : IntKind.wrap .i64 ((k : Int) - 1) = ((k - 1 : Nat) : Int) := by rw [wrap64 (by omega) (by omega)]; omega
    have h2 : k - 1 < l.length := by omega
    rw [L_slices_symMergeCmpFunc_api_Val_o2_5_eq]
    simp only [e2, decide_eq_true (show (k : Int) > (i : Int) by omega), cond_true, nat_le, Bool.true_and, List.length_set, List.length_map, lt_len h1, lt_len h2, Int.toNat_natCast, List.getElem?_map, List.getElem?_eq_getElem h1, List.getElem?_eq_getElem h2, Option.map_some, Option.bind_some, c_rowp, rowp_fold]
    have h3 : k - 1 < ((l.map rowp).set k (rowp l[k - 1])).length := by simpa using h2
    rw [List.getElem?_eq_getElem h3]
    simp only [Option.bind_some]
    rw [sw_map l k (k - 1) h1 h2]
    exact mvL_loop at_ i n (k - 1) (sw l k (k - 1)) (by omega) (by rw [sw_len]; omega) (by rw [sw_len]; exact hl)
theorem bs1_loop (at_ : Int) (a : Nat) (l : List (List Val)) (ha : a < l.length) (hl : l.length ≤ 1000000000) : ∀ (f lo hi : Nat), hi - lo ≤ f → lo ≤ hi → hi ≤ l.length →
    L_slices_symMergeCmpFunc_api_Val_o2_1 (a : Int) (lo : Int) (hi : Int) (l.map rowp) at_ = L_slices_symMergeCmpFunc_api_Val_o2_4 ((bs (fun h => !leO (leR at_) l a h) f lo hi : Nat) : Int) (a : Int) (l.map rowp) at_
  | 0, lo, hi, h, hle, hh => by
    rw [L_slices_symMergeCmpFunc_api_Val_o2_1_eq, decide_eq_false (by omega)]; rfl
  | f + 1, lo, hi, h, hle, hh => by
    rw [L_slices_symMergeCmpFunc_api_Val_o2_1_eq]
    unfold bs
    rcases Nat.lt_or_ge lo hi with c | c
    · have hm : (lo + hi) / 2 < l.length := by omega
      rw [if_pos c, leO_get at_ l a ((lo + hi) / 2) ha hm]
      simp only [lt_len c, cond_true, half_w lo hi (by omega), nat_le, Bool.true_and, List.length_map, lt_len hm, lt_len ha, Int.toNat_natCast, List.getElem?_map, List.getElem?_eq_getElem hm, List.getElem?_eq_getElem ha, Option.map_some, Option.bind_some, c_rowp, rowp_fold, w_Sort2, k_5b106d_mk, c_i64_mk, Bool.not_not]
      cases hd : decide (cmpB (keyR at_ l[(lo + hi) / 2]) (keyR at_ l[a]) < 0) with
      | true =>
        simp only [cond_true, if_true]
        rw [wrap_succ (by omega)]
        exact bs1_loop at_ a l ha hl f ((lo + hi) / 2 + 1) hi (by omega) (by omega) hh
      | false =>
        simp only [cond_false, Bool.false_eq_true, if_false]
        exact bs1_loop at_ a l ha hl f lo ((lo + hi) / 2) (by omega) (by omega) (by omega)
    · rw [if_neg (by omega), decide_eq_false (by omega)]; rfl
theorem bs2_loop (at_ : Int) (m : Nat) (l : List (List Val)) (ha : m < l.length) (hl : l.length ≤ 1000000000) : ∀ (f lo hi : Nat), hi - lo ≤ f → lo ≤ hi → hi ≤ l.length →
    L_slices_symMergeCmpFunc_api_Val_o2_2 (m : Int) (lo : Int) (hi : Int) (l.map rowp) at_ = L_slices_symMergeCmpFunc_api_Val_o2_5 ((bs (fun h => leO (leR at_) l h m) f lo hi : Nat) : Int) (m : Int) (l.map rowp) at_
  | 0, lo, hi, h, hle, hh => by
    rw [L_slices_symMergeCmpFunc_api_Val_o2_2_eq, decide_eq_false (by omega)]; rfl
  | f + 1, lo, hi, h, hle, hh => by
    rw [L_slices_symMergeCmpFunc_api_Val_o2_2_eq]
    unfold bs
    rcases Nat.lt_or_ge lo hi with c | c
    · have hm : (lo + hi) / 2 < l.length := by omega
      rw [if_pos c, leO_get at_ l ((lo + hi) / 2) m hm ha]
      simp only [lt_len c, cond_true, half_w lo hi (by omega), nat_le, Bool.true_and, List.length_map, lt_len hm, lt_len ha, Int.toNat_natCast, List.getElem?_map, List.getElem?_eq_getElem hm, List.getElem?_eq_getElem ha, Option.map_some, Option.bind_some, c_rowp, rowp_fold, w_Sort2, k_5b106d_mk, c_i64_mk]
      cases hd : decide (cmpB (keyR at_ l[m]) (keyR at_ l[(lo + hi) / 2]) < 0) with
      | false =>
        simp only [cond_true, Bool.not_false, if_true]
        rw [wrap_succ (by omega)]
        exact bs2_loop at_ m l ha hl f ((lo + hi) / 2 + 1) hi (by omega) (by omega) hh
      | true =>
        simp only [cond_false, Bool.not_true, Bool.false_eq_true, if_false]
        exact bs2_loop at_ m l ha hl f lo ((lo + hi) / 2) (by omega) (by omega) (by omega)
    · rw [if_neg (by omega), decide_eq_false (by omega)]; rfl
theorem bs3_loop (at_ : Int) (a m b mid n p : Nat) (l : List (List Val)) (hl : l.length ≤ 1000000000) (hn : p = n - 1) (R : Nat → Option (AV × List Ob))
    (hR : ∀ st : Nat, st ≤ n → (bif decide ((st : Int) < (m : Int)) then J_slices_symMergeCmpFunc_api_Val_o2_7 (a : Int) (m : Int) (b : Int) (mid : Int) (st : Int) (IntKind.wrap .i64 ((n : Int) - (st : Int))) (decide ((m : Int) < IntKind.wrap .i64 ((n : Int) - (st : Int)))) (l.map rowp) at_
      else J_slices_symMergeCmpFunc_api_Val_o2_7 (a : Int) (m : Int) (b : Int) (mid : Int) (st : Int) (IntKind.wrap .i64 ((n : Int) - (st : Int))) false (l.map rowp) at_) = R st) : ∀ (f lo hi : Nat), hi - lo ≤ f → lo ≤ hi → hi ≤ l.length → p - lo < l.length → hi ≤ p + 1 → hi ≤ n →
    L_slices_symMergeCmpFunc_api_Val_o2_6 (a : Int) (m : Int) (b : Int) (mid : Int) (n : Int) (lo : Int) (hi : Int) (p : Int) (l.map rowp) at_ = R (bs (fun c => leO (leR at_) l c (n - 1 - c)) f lo hi)
  | 0, lo, hi, h, hle, hh, hp, hhp, hhn => by
    rw [L_slices_symMergeCmpFunc_api_Val_o2_6_eq, decide_eq_false (by omega)]
    exact hR lo (by omega)
  | f + 1, lo, hi, h, hle, hh, hp, hhp, hhn => by
    rw [L_slices_symMergeCmpFunc_api_Val_o2_6_eq]
    unfold bs
    rcases Nat.lt_or_ge lo hi with c | c
    · have hm : (lo + hi) / 2 < l.length := by omega
      have hq : p - (lo + hi) / 2 < l.length := by omega
      have e1 : IntKind.wrap .i64 ((p : Int) - (((lo + hi) / 2 : Nat) : Int)) = ((p - (lo + hi) / 2 : Nat) : Int) := by rw [wrap64 (by omega) (by omega)]; omega
      rw [if_pos c]
      have e2 : leO (leR at_) l ((lo + hi) / 2) (n - 1 - (lo + hi) / 2) = !decide (cmpB (keyR at_ l[p - (lo + hi) / 2]) (keyR at_ l[(lo + hi) / 2]) < 0) := by
        subst hn; exact leO_get at_ l ((lo + hi) / 2) (n - 1 - (lo + hi) / 2) hm hq
      rw [e2]
      simp only [lt_len c, cond_true, half_w lo hi (by omega), e1, nat_le, Bool.true_and, List.length_map, lt_len hm, lt_len hq, Int.toNat_natCast, List.getElem?_map, List.getElem?_eq_getElem hm, List.getElem?_eq_getElem hq, Option.map_some, Option.bind_some, c_rowp, rowp_fold, w_Sort2, k_5b106d_mk, c_i64_mk]
      cases hd : decide (cmpB (keyR at_ l[p - (lo + hi) / 2]) (keyR at_ l[(lo + hi) / 2]) < 0) with
      | false =>
        simp only [cond_true, Bool.not_false, if_true]
        rw [wrap_succ (by omega)]
        exact bs3_loop at_ a m b mid n p l hl hn R hR f ((lo + hi) / 2 + 1) hi (by omega) (by omega) hh (by omega) hhp hhn
      | true =>
        simp only [cond_false, Bool.not_true, Bool.false_eq_true, if_false]
        exact bs3_loop at_ a m b mid n p l hl hn R hR f lo ((lo + hi) / 2) (by omega) (by omega) (by omega) hp (by omega) (by omega)
    · rw [if_neg (by omega), decide_eq_false (by omega)]
      exact hR lo (by omega)
noncomputable abbrev symW (at_ : Int) (a m b : Nat) (l : List (List Val)) : Option (AV × List Ob) :=
  W n_slices_symMergeCmpFunc_api_Val false [.fx 0 0, .pv (.int .i64 (a : Int)), .pv (.int .i64 (m : Int)), .pv (.int .i64 (b : Int)), .fnv n_bag_Sort_2 [] [.own 1 0]] [.fix 0 0 (l.map rowp), .var false 0 (.pv (.int .i64 at_))]
theorem sym_tail (at_ : Int) (f : Nat) (ih : ∀ (a m b : Nat) (l : List (List Val)), a < m → m < b → b ≤ l.length → l.length ≤ 1000000000 → b - a ≤ f → symW at_ a m b l = tells (symF (leR at_) f a m b l) at_)
    (a m b mid st en : Nat) (l : List (List Val)) (h1 : a < b) (hmid : mid ≤ b) (hma : mid - a ≤ f) (hmb : b - mid ≤ f) (h2 : en ≤ b) (hen : m ≤ en ∨ en ≤ m) (hb : b ≤ l.length) (hl : l.length ≤ 1000000000) :
    (bif decide ((st : Int) < (m : Int)) then J_slices_symMergeCmpFunc_api_Val_o2_7 (a : Int) (m : Int) (b : Int) (mid : Int) (st : Int) (en : Int) (decide ((m : Int) < (en : Int))) (l.map rowp) at_
      else J_slices_symMergeCmpFunc_api_Val_o2_7 (a : Int) (m : Int) (b : Int) (mid : Int) (st : Int) (en : Int) false (l.map rowp) at_) = tells (symS (leR at_) f a m b mid st en l) at_ := by
  have h11 : ∀ (l : List (List Val)), b ≤ l.length → l.length ≤ 1000000000 → J_slices_symMergeCmpFunc_api_Val_o2_10 (b : Int) (mid : Int) (en : Int) (l.map rowp) at_ = tells (if mid < en ∧ en < b then symF (leR at_) f mid en b l else l) at_ := fun l hb hl => by
    rw [J_slices_symMergeCmpFunc_api_Val_o2_10_eq]
    by_cases c1 : mid < en
    · rw [lt_len c1, cond_true, J_slices_symMergeCmpFunc_api_Val_o2_11_eq]
      by_cases c2 : en < b
      · rw [lt_len c2, cond_true, if_pos ⟨c1, c2⟩]
        have := ih mid en b l c1 c2 hb hl hmb
        unfold symW at this
        rw [this]
        simp only [tells, Option.bind_some, k_c4d914_mk]
      · rw [decide_eq_false (by omega), cond_false, if_neg (fun h => c2 h.2)]; rfl
    · rw [decide_eq_false (by omega), cond_false, J_slices_symMergeCmpFunc_api_Val_o2_11_eq, cond_false, if_neg (fun h => c1 h.1)]; rfl
  have h9 : ∀ (l l2 : List (List Val)), l2 = (if a < st ∧ st < mid then symF (leR at_) f a st mid l else l) → b ≤ l.length → l.length ≤ 1000000000 → J_slices_symMergeCmpFunc_api_Val_o2_8 (a : Int) (b : Int) (mid : Int) (st : Int) (en : Int) (l.map rowp) at_ =
      tells (if mid < en ∧ en < b then symF (leR at_) f mid en b l2 else l2) at_ := fun l l2 e hb hl => by
    rw [J_slices_symMergeCmpFunc_api_Val_o2_8_eq]
    by_cases c1 : a < st
    · rw [lt_len c1, cond_true, J_slices_symMergeCmpFunc_api_Val_o2_9_eq]
      by_cases c2 : st < mid
      · rw [if_pos ⟨c1, c2⟩] at e
        subst e
        rw [lt_len c2, cond_true]
        have := ih a st mid l c1 c2 (by omega) hl hma
        unfold symW at this
        rw [this]
        simp only [tells, Option.bind_some, k_c4d914_mk]
        exact h11 _ (by rw [symF_len]; exact hb) (by rw [symF_len]; exact hl)
      · rw [if_neg (fun h => c2 h.2)] at e
        subst e
        rw [decide_eq_false (by omega), cond_false]; exact h11 _ hb hl
    · rw [if_neg (fun h => c1 h.1)] at e
      subst e
      rw [decide_eq_false (by omega), cond_false, J_slices_symMergeCmpFunc_api_Val_o2_9_eq, cond_false]; exact h11 _ hb hl
  have e1 : ∃ l1 : List (List Val), l1 = if st < m ∧ m < en then rotG m (en - st) (m - st) (en - m) l else l := ⟨_, rfl⟩
  obtain ⟨l1, e1⟩ := e1
  have hS : symS (leR at_) f a m b mid st en l = if mid < en ∧ en < b then symF (leR at_) f mid en b (if a < st ∧ st < mid then symF (leR at_) f a st mid l1 else l1) else (if a < st ∧ st < mid then symF (leR at_) f a st mid l1 else l1) := by rw [e1]; rfl
  rw [hS]
  by_cases c1 : st < m
  · rw [lt_len c1, cond_true, J_slices_symMergeCmpFunc_api_Val_o2_7_eq]
    by_cases c2 : m < en
    · rw [if_pos ⟨c1, c2⟩] at e1
      subst e1
      rw [lt_len c2, cond_true, w_rotate at_ st m en l c1 c2 (by omega) hl]
      simp only [tells, Option.bind_some, k_c4d914_mk]
      exact h9 _ _ rfl (by rw [rotG_len]; exact hb) (by rw [rotG_len]; exact hl)
    · rw [if_neg (fun h => c2 h.2)] at e1
      subst e1
      rw [decide_eq_false (by omega), cond_false]; exact h9 _ _ rfl hb hl
  · rw [if_neg (fun h => c1 h.1)] at e1
    subst e1
    rw [decide_eq_false (by omega), cond_false, J_slices_symMergeCmpFunc_api_Val_o2_7_eq, cond_false]; exact h9 _ _ rfl hb hl
theorem w_symMerge (at_ : Int) : ∀ (f a m b : Nat) (l : List (List Val)), a < m → m < b → b ≤ l.length → l.length ≤ 1000000000 → b - a ≤ f → symW at_ a m b l = tells (symF (leR at_) f a m b l) at_
  | 0, a, m, b, l, h1, h2, h3, h4, h5 => by omega
  | f + 1, a, m, b, l, h1, h2, h3, h4, h5 => by
    have em : IntKind.wrap .i64 ((m : Int) - (a : Int)) = ((m - a : Nat) : Int) := by rw [wrap64 (by omega) (by omega)]; omega
    have eb : IntKind.wrap .i64 ((b : Int) - (m : Int)) = ((b - m : Nat) : Int) := by rw [wrap64 (by omega) (by omega)]; omega
    unfold symW
    rw [o_slices_symMergeCmpFunc_api_Val_o2_1, em, eb, symF_succ]
    by_cases c1 : m - a = 1
    · rw [beq_t (by omega), cond_true, if_pos c1, bs1_loop at_ a l (by omega) h4 (b - m) m b (by omega) (by omega) h3]
      have := bs_le (fun h => !leO (leR at_) l a h) (b - m) m b (by omega)
      exact mvR_loop at_ _ _ a l (by omega) (by omega) (by omega) h4
    · rw [beq_f (by omega), cond_false, if_neg c1]
      by_cases c2 : b - m = 1
      · rw [beq_t (by omega), cond_true, if_pos c2, bs2_loop at_ m l (by omega) h4 (m - a) a m (by omega) (by omega) (by omega)]
        have := bs_le (fun h => leO (leR at_) l h m) (m - a) a m (by omega)
        exact mvL_loop at_ _ _ m l (by omega) (by omega) h4
      · rw [beq_f (by omega), cond_false, if_neg c2, half_w a b (by omega)]
        have en : IntKind.wrap .i64 ((((a + b) / 2 : Nat) : Int) + (m : Int)) = (((a + b) / 2 + m : Nat) : Int) := by rw [wrap64 (by omega) (by omega)]; omega
        have ep : IntKind.wrap .i64 ((((a + b) / 2 + m : Nat) : Int) - 1) = (((a + b) / 2 + m - 1 : Nat) : Int) := by rw [wrap64 (by omega) (by omega)]; omega
        rw [en]
        by_cases c3 : m > (a + b) / 2
        · have es : IntKind.wrap .i64 ((((a + b) / 2 + m : Nat) : Int) - (b : Int)) = (((a + b) / 2 + m - b : Nat) : Int) := by rw [wrap64 (by omega) (by omega)]; omega
          have hb := bs_le (fun c => leO (leR at_) l c ((a + b) / 2 + m - 1 - c)) ((a + b) / 2 - ((a + b) / 2 + m - b)) ((a + b) / 2 + m - b) ((a + b) / 2) (by omega)
          rw [decide_eq_true (by omega), cond_true, if_pos c3, es, J_slices_symMergeCmpFunc_api_Val_o2_3_eq, ep]
          have k := bs3_loop at_ a m b ((a + b) / 2) ((a + b) / 2 + m) ((a + b) / 2 + m - 1) l h4 rfl (fun st => (bif decide ((st : Int) < (m : Int)) then J_slices_symMergeCmpFunc_api_Val_o2_7 (a : Int) (m : Int) (b : Int) (((a + b) / 2 : Nat) : Int) (st : Int) (IntKind.wrap .i64 ((((a + b) / 2 + m : Nat) : Int) - (st : Int))) (decide ((m : Int) < IntKind.wrap .i64 ((((a + b) / 2 + m : Nat) : Int) - (st : Int)))) (l.map rowp) at_
            else J_slices_symMergeCmpFunc_api_Val_o2_7 (a : Int) (m : Int) (b : Int) (((a + b) / 2 : Nat) : Int) (st : Int) (IntKind.wrap .i64 ((((a + b) / 2 + m : Nat) : Int) - (st : Int))) false (l.map rowp) at_)) (fun st h => rfl) ((a + b) / 2 - ((a + b) / 2 + m - b)) ((a + b) / 2 + m - b) ((a + b) / 2) (by omega) (by omega) (by omega) (by omega) (by omega) (by omega)
          rw [k]
          generalize bs (fun c => leO (leR at_) l c ((a + b) / 2 + m - 1 - c)) ((a + b) / 2 - ((a + b) / 2 + m - b)) ((a + b) / 2 + m - b) ((a + b) / 2) = st at hb
          have ee : IntKind.wrap .i64 ((((a + b) / 2 + m : Nat) : Int) - (st : Int)) = (((a + b) / 2 + m - st : Nat) : Int) := by rw [wrap64 (by omega) (by omega)]; omega
          rw [ee]
          exact sym_tail at_ f (fun a m b l h1 h2 h3 h4 h5 => w_symMerge at_ f a m b l h1 h2 h3 h4 h5) a m b ((a + b) / 2) st ((a + b) / 2 + m - st) l (by omega) (by omega) (by omega) (by omega) (by omega) (by omega) h3 h4
        · have hb := bs_le (fun c => leO (leR at_) l c ((a + b) / 2 + m - 1 - c)) (m - a) a m (by omega)
          rw [decide_eq_false (by omega), cond_false, if_neg c3, J_slices_symMergeCmpFunc_api_Val_o2_3_eq, ep]
          have k := bs3_loop at_ a m b ((a + b) / 2) ((a + b) / 2 + m) ((a + b) / 2 + m - 1) l h4 rfl (fun st => (bif decide ((st : Int) < (m : Int)) then J_slices_symMergeCmpFunc_api_Val_o2_7 (a : Int) (m : Int) (b : Int) (((a + b) / 2 : Nat) : Int) (st : Int) (IntKind.wrap .i64 ((((a + b) / 2 + m : Nat) : Int) - (st : Int))) (decide ((m : Int) < IntKind.wrap .i64 ((((a + b) / 2 + m : Nat) : Int) - (st : Int)))) (l.map rowp) at_
            else J_slices_symMergeCmpFunc_api_Val_o2_7 (a : Int) (m : Int) (b : Int) (((a + b) / 2 : Nat) : Int) (st : Int) (IntKind.wrap .i64 ((((a + b) / 2 + m : Nat) : Int) - (st : Int))) false (l.map rowp) at_)) (fun st h => rfl) (m - a) a m (by omega) (by omega) (by omega) (by omega) (by omega) (by omega)
          rw [k]
          generalize bs (fun c => leO (leR at_) l c ((a + b) / 2 + m - 1 - c)) (m - a) a m = st at hb
          have ee : IntKind.wrap .i64 ((((a + b) / 2 + m : Nat) : Int) - (st : Int)) = (((a + b) / 2 + m - st : Nat) : Int) := by rw [wrap64 (by omega) (by omega)]; omega
          rw [ee]
          exact sym_tail at_ f (fun a m b l h1 h2 h3 h4 h5 => w_symMerge at_ f a m b l h1 h2 h3 h4 h5) a m b ((a + b) / 2) st ((a + b) / 2 + m - st) l (by omega) (by omega) (by omega) (by omega) (by omega) (by omega) h3 h4
end Go.Cf

namespace Go.Cf
open Go Go.Ab
set_option linter.unusedVariables false
set_option linter.unusedSimpArgs false
theorem pass_len {α : Type} (le : α → α → Bool) (s n : Nat) : ∀ (f a : Nat) (l : List α), (pass le s n f a l).length = l.length
  | 0, _, _ => rfl
  | f + 1, a, l => by
    unfold pass
    split
    · rw [pass_len le s n f, symF_len]
    · split
      · exact symF_len _ _ _ _ _ _
      · rfl
theorem blk1_len {α : Type} (le : α → α → Bool) (n : Nat) : ∀ (f a : Nat) (l : List α), (blk1 le n f a l).length = l.length
  | 0, _, _ => rfl
  | f + 1, a, l => by
    unfold blk1
    split
    · rw [blk1_len le n f]; exact insG_len _ _ _ _ _
    · exact insG_len _ _ _ _ _
theorem stL_loop (at_ : Int) (n : Nat) (hn : n ≤ 1000000000) : ∀ (f s : Nat) (l : List (List Val)), n < f + s → 0 < s → s ≤ 2000000000 → l.length = n →
    L_slices_stableCmpFunc_api_Val_o2_2 (n : Int) (s : Int) (l.map rowp) at_ = tells (stL (leR at_) n f s l) at_
  | 0, s, l, h, h0, hs, hl => by
    rw [L_slices_stableCmpFunc_api_Val_o2_2_eq, decide_eq_false (by omega)]; rfl
  | f + 1, s, l, h, h0, hs, hl => by
    rw [L_slices_stableCmpFunc_api_Val_o2_2_eq]
    unfold stL
    by_cases c : s < n
    · have e1 : IntKind.wrap .i64 ((2 : Int) * (s : Int)) = ((2 * s : Nat) : Int) := by rw [wrap64 (by omega) (by omega)]; omega
      have e2 : IntKind.wrap .i64 ((s : Int) * (2 : Int)) = ((2 * s : Nat) : Int) := by rw [wrap64 (by omega) (by omega)]; omega
      rw [lt_len c, cond_true, if_pos c, e1]
      have key : ∀ (g a : Nat) (l : List (List Val)), n < a + g → a ≤ n → l.length = n → L_slices_stableCmpFunc_api_Val_o2_3 (n : Int) (s : Int) (a : Int) ((a + 2 * s : Nat) : Int) (l.map rowp) at_ = tells (stL (leR at_) n f (2 * s) (pass (leR at_) s n g a l)) at_ := by
        intro g
        induction g with
        | zero => intro a l h1 h2 h3; omega
        | succ g ih =>
          intro a l h1 h2 h3
          have e3 : IntKind.wrap .i64 ((a : Int) + (s : Int)) = ((a + s : Nat) : Int) := by rw [wrap64 (by omega) (by omega)]; omega
          have e4 : IntKind.wrap .i64 (((a + 2 * s : Nat) : Int) + ((2 * s : Nat) : Int)) = ((a + 2 * s + 2 * s : Nat) : Int) := by rw [wrap64 (by omega) (by omega)]; omega
          rw [L_slices_stableCmpFunc_api_Val_o2_3_eq, e3]
          unfold pass
          by_cases c1 : a + 2 * s ≤ n
          · have hm := w_symMerge at_ (2 * s) a (a + s) (a + 2 * s) l (by omega) (by omega) (by omega) (by omega) (by omega)
            unfold symW at hm
            rw [decide_eq_true (by omega), cond_true, if_pos c1, hm]
            simp only [tells, Option.bind_some, k_c4d914_mk, e1, e4]
            exact ih (a + 2 * s) _ (by omega) c1 (by rw [symF_len]; exact h3)
          · rw [decide_eq_false (by omega), cond_false, if_neg c1]
            by_cases c2 : a + s < n
            · have hm := w_symMerge at_ (n - a) a (a + s) n l (by omega) (by omega) (by omega) (by omega) (by omega)
              unfold symW at hm
              rw [lt_len c2, cond_true, if_pos c2, hm]
              simp only [tells, Option.bind_some, k_c4d914_mk, e2]
              exact stL_loop at_ n hn f (2 * s) _ (by omega) (by omega) (by omega) (by rw [symF_len]; exact h3)
            · rw [decide_eq_false (by omega), cond_false, if_neg c2, e2]
              exact stL_loop at_ n hn f (2 * s) l (by omega) (by omega) (by omega) h3
      have := key (n + 1) 0 l (by omega) (by omega) hl
      rw [Nat.zero_add] at this
      exact this
    · rw [decide_eq_false (by omega), cond_false, if_neg c]; rfl
theorem blk_loop (at_ : Int) (n : Nat) (hn : n ≤ 1000000000) : ∀ (f a : Nat) (l : List (List Val)), n < a + f → a ≤ n → l.length = n →
    L_slices_stableCmpFunc_api_Val_o2_1 (n : Int) 20 (a : Int) ((a + 20 : Nat) : Int) (l.map rowp) at_ = tells (stL (leR at_) n n 20 (blk1 (leR at_) n f a l)) at_
  | 0, a, l, h, ha, hl => by omega
  | f + 1, a, l, h, ha, hl => by
    rw [L_slices_stableCmpFunc_api_Val_o2_1_eq]
    unfold blk1
    by_cases c : a + 20 ≤ n
    · have hi := w_insertion at_ a (a + 20) l (by omega) (by omega) (by omega)
      rw [decide_eq_true (by omega), cond_true, if_pos c, hi]
      have e1 : IntKind.wrap .i64 (((a + 20 : Nat) : Int) + 20) = ((a + 20 + 20 : Nat) : Int) := by rw [wrap64 (by omega) (by omega)]; omega
      simp only [tells, Option.bind_some, k_c4d914_mk, e1]
      exact blk_loop at_ n hn f (a + 20) _ (by omega) c (by unfold insB; rw [insG_len]; exact hl)
    · have hi := w_insertion at_ a n l (by omega) ha (by omega)
      rw [decide_eq_false (by omega), cond_false, if_neg c, hi]
      simp only [tells, Option.bind_some, k_c4d914_mk]
      exact stL_loop at_ n hn n 20 _ (by omega) (by omega) (by omega) (by unfold insB; rw [insG_len]; exact hl)
def sortR (at_ : Int) (l : List (List Val)) : List (List Val) := stL (leR at_) l.length l.length 20 (blk1 (leR at_) l.length (l.length + 1) 0 l)
theorem sortR_spec (at_ : Int) (l : List (List Val)) : Srt (leR at_) (sortR at_ l) ∧ Keeps (leR at_) l (sortR at_ l) := stable_spec (leR at_) (leR_total at_) (leR_trans at_) l
theorem w_SortStable (at_ : Int) (l : List (List Val)) (hl : l.length ≤ 1000000000) :
    W n_slices_SortStableFunc_api_Val_api_Val false [.fx 0 0, .fnv n_bag_Sort_2 [] [.own 1 0]] [.fix 0 0 (l.map rowp), .var false 0 (.pv (.int .i64 at_))] = tells (sortR at_ l) at_ := by
  rw [o_slices_SortStableFunc_api_Val_api_Val_o2_1, o_slices_stableCmpFunc_api_Val_o2_1, List.length_map]
  have := blk_loop at_ l.length hl (l.length + 1) 0 l (by omega) (by omega) rfl
  rw [Nat.zero_add] at this
  simp only [Int.cast_ofNat_Int] at this
  rw [this]
  simp only [tells, Option.bind_some, k_c4d914_mk]
  rfl
theorem some_loop (D E : List PV) (c : List Int) (l : List (List Val)) (hl : l.length ≤ 1000000000) (hr : ∀ x ∈ l, x.length ≤ 4294967296) : ∀ (k i : Nat) (acc : List (List Val)), i + k = l.length → acc.length = i →
    L_bag_some_r0_1 (l.map rowp) (l.length : Int) (i : Int) D E (c.map intp) (acc.map rowp) = some (.agg [.pv (.slice 0 (c.map intp)), .view 0 0 none], [.row false 0 0 ((acc ++ l.drop i).map rowp)])
  | 0, i, acc, h, ha => by
    rw [L_bag_some_r0_1_eq, show i = l.length by omega]
    simp only [ge_len, cond_false, List.drop_length, List.append_nil]
  | k + 1, i, acc, h, ha => by
    have hi : i < l.length := by omega
    rw [L_bag_some_r0_1_eq]
    have hc := x_slices_Clone_api_Val_api_Val (l[i].map Val.pv) (by rw [List.length_map]; exact hr _ (List.getElem_mem hi))
    have hb := e_bag_Sort_1 (l[i].map Val.pv)
    rw [rowp_fold] at hc hb
    simp only [lt_len hi, nat_le, cond_true, Int.toNat_natCast, List.getElem?_map, List.getElem?_eq_getElem hi, Option.map_some, Option.bind_some, c_rowp, rowp_fold, hb, hc, c_b_mk, List.length_map, Bool.true_and, decide_eq_true (show acc.length + 1 ≤ 4294967296 by omega)]
    rw [wrap_succ (by omega)]
    have := some_loop D E c l hl hr k (i + 1) (acc ++ [l[i]]) (by omega) (by simp [ha])
    rw [List.map_append] at this
    rw [show [rowp l[i]] = [l[i]].map rowp from rfl, this, List.drop_eq_getElem_cons hi, List.append_assoc]; rfl
def sortB (c : List Int) (r : List (List Val)) (col : Int) : List (List Val) := sortR (idxI c (fun x => col == x)) r
theorem w_Sort (c : List Int) (r : List (List Val)) (col : Int) (hc : c.length ≤ 4294967296) (hl : r.length ≤ 1000000000) (hr : ∀ x ∈ r, x.length ≤ 4294967296) : wc W n_bag_Sort [bagp c r, .int .i64 col] = some (bagp c (sortB c r col)) := by
  have h := e_bag_Sort (c.map intp) (r.map rowp) col
  have h2 := o_bag_some_r0_1 (c.map intp) (r.map rowp)
  have h3 := x_slices_Clone_int_int (c.map intp) (by rw [List.length_map]; exact hc)
  have h4 := some_loop [] [] c r hl hr r.length 0 [] (by omega) rfl
  simp only [List.map_nil, List.nil_append, List.drop_zero] at h4
  rw [h3] at h2
  simp only [Option.bind_some, c_s0_mk, List.length_map] at h2
  rw [show ((0 : Nat) : Int) = 0 from rfl] at h4
  rw [h4] at h2
  rw [intsp_fold, tabp_fold, bagp_fold] at h h2
  rw [h, h2, w_Index c col (by omega)]
  unfold intsp
  simp only [Option.bind_some, k_8de13e_mk, c_i64_mk]
  rw [w_SortStable _ r hl]
  simp only [tells, Option.bind_some, k_c4d914_mk]
  rfl
def ordB (at_ : Int) : List (List Val) → Bool
  | [] => true
  | [_] => true
  | x :: y :: r => leR at_ x y && ordB at_ (y :: r)
theorem ordB_iff (at_ : Int) : ∀ (l : List (List Val)), ordB at_ l = true ↔ Srt (leR at_) l
  | [] => by simp [ordB]
  | [x] => by simp [ordB]
  | x :: y :: r => by
    unfold ordB
    rw [Bool.and_eq_true, ordB_iff at_ (y :: r)]
    constructor
    · rintro ⟨h1, h2⟩
      refine List.pairwise_cons.2 ⟨fun z hz => ?_, h2⟩
      rcases List.mem_cons.1 hz with rfl | hz
      · exact h1
      · exact leR_trans at_ _ _ _ h1 ((List.pairwise_cons.1 h2).1 z hz)
    · intro h
      have := List.pairwise_cons.1 h
      exact ⟨this.1 y (by simp), this.2⟩
end Go.Cf

namespace Go.Cf
open Go Go.Ab
set_option linter.unusedVariables false
set_option linter.unusedSimpArgs false
abbrev Ky := Int × Int
abbrev GM := List (Ky × List (List Val))
def mpG (m : GM) : List (PV × PV) := m.map fun x => (keyP x.1, tabp x.2)
@[simp] theorem keyP_fold (k : Ky) : PV.agg [.int .i64 k.1, .int .i64 k.2] = keyP k := rfl
@[simp] theorem keyP_mk (k : Ky) {R : Type} (f : Int → Int → Option R) : c_g_i64_i64 (keyP k) f = f k.1 k.2 := rfl
theorem eqK (a b : Ky) : eqP cfg 6 100 (keyP a) (keyP b) = some (decide (a = b)) := by
  have h : eqP cfg 6 100 (keyP a) (keyP b) = (bif (a.1 == b.1) then (bif (a.2 == b.2) then some true else some false) else some false) := by rfl
  rw [h]
  obtain ⟨a1, a2⟩ := a
  obtain ⟨b1, b2⟩ := b
  simp only [Prod.mk.injEq]
  rw [Bool.decide_and]
  show _ = some ((a1 == b1) && (a2 == b2))
  cases a1 == b1 <;> cases a2 == b2 <;> rfl
theorem sameK (a : Ky) : sameP (keyP a) (keyP a) = true := by
  show (sameC _ _ && _) = true
  simp [sameC, sameCs]
def putG (k : Ky) (x : List Val) : GM → GM
  | [] => [(k, [x])]
  | y :: r => if k = y.1 then (y.1, y.2 ++ [x]) :: r else y :: putG k x r
def getG (k : Ky) : GM → Option (List (List Val))
  | [] => none
  | y :: r => if k = y.1 then some y.2 else getG k r
theorem mfind_G (k : Ky) : ∀ m : GM, mfind (eqP cfg 6 100) (keyP k) (mpG m) = some ((getG k m).map tabp)
  | [] => rfl
  | y :: r => by
    show mfind (eqP cfg 6 100) (keyP k) ((keyP y.1, tabp y.2) :: mpG r) = _
    simp only [mfind, eqK, Option.bind_some, getG]
    by_cases h : k = y.1
    · rw [decide_eq_true h, if_pos h]; rfl
    · rw [decide_eq_false h, if_neg h]; exact mfind_G k r
def idxG (k : Ky) : GM → Nat
  | [] => 0
  | y :: r => if k = y.1 then 0 else idxG k r + 1
theorem gidx_G (k : Ky) : ∀ m : GM, gidx (eqP cfg 6 100) (keyP k) (mpG m) = some (idxG k m)
  | [] => rfl
  | y :: r => by
    show gidx (eqP cfg 6 100) (keyP k) ((keyP y.1, tabp y.2) :: mpG r) = _
    simp only [gidx, eqK, Option.bind_some, idxG]
    by_cases h : k = y.1
    · rw [decide_eq_true h, if_pos h, ← h, sameK]; rfl
    · rw [decide_eq_false h, if_neg h, cond_false, gidx_G k r]; rfl
theorem grow_G (k : Ky) : ∀ m : GM, grow_ 0 (idxG k m) (mpG m) = some (((getG k m).getD []).map rowp)
  | [] => rfl
  | y :: r => by
    simp only [idxG, getG]
    by_cases h : k = y.1
    · rw [if_pos h, if_pos h]; rfl
    · rw [if_neg h, if_neg h]
      have := grow_G k r
      unfold grow_ at this ⊢
      show (match (mpG r)[idxG k r]? with | none => some [] | some e => e.2.asSlice 0) = _
      exact this
theorem put_G (k : Ky) (x : List Val) : ∀ m : GM, gset (.slice 0 ((((getG k m).getD []).map rowp) ++ [rowp x])) (idxG k m) (gput (keyP k) 0 (idxG k m) (mpG m)) = mpG (putG k x m)
  | [] => rfl
  | y :: r => by
    simp only [idxG, getG, putG]
    by_cases h : k = y.1
    · rw [if_pos h, if_pos h, if_pos h]
      have e : gput (keyP k) 0 0 (mpG (y :: r)) = (keyP k, tabp y.2) :: mpG r := by
        unfold gput
        rw [decide_eq_true (by show 0 < (mpG (y :: r)).length; simp [mpG])]; rfl
      rw [e]
      unfold gset
      show (keyP k, PV.slice 0 (y.2.map rowp ++ [rowp x])) :: mpG r = (keyP y.1, tabp (y.2 ++ [x])) :: mpG r
      rw [h]; unfold tabp; rw [List.map_append]; rfl
    · rw [if_neg h, if_neg h, if_neg h]
      have ih := put_G k x r
      have e : gput (keyP k) 0 (idxG k r + 1) (mpG (y :: r)) = (keyP y.1, tabp y.2) :: gput (keyP k) 0 (idxG k r) (mpG r) := by
        unfold gput
        have hl : (mpG (y :: r)).length = (mpG r).length + 1 := by simp [mpG]
        by_cases hlt : idxG k r < (mpG r).length
        · rw [decide_eq_true (by omega), decide_eq_true hlt]; rfl
        · rw [decide_eq_false (by omega), decide_eq_false hlt]; rfl
      rw [e]
      have e2 : ∀ v, gset v (idxG k r + 1) ((keyP y.1, tabp y.2) :: gput (keyP k) 0 (idxG k r) (mpG r)) = (keyP y.1, tabp y.2) :: gset v (idxG k r) (gput (keyP k) 0 (idxG k r) (mpG r)) := fun v => by unfold gset; rfl
      rw [e2, ih]; rfl
def foldG (at_ : Int) : List (List Val) → GM → GM
  | [], m => m
  | x :: r, m => foldG at_ r (putG (keyR at_ x) x m)
def keysG (at_ : Int) : List (List Val) → GM → List Ky → List Ky
  | [], _, ks => ks
  | x :: r, m, ks => keysG at_ r (putG (keyR at_ x) x m) (if getG (keyR at_ x) m = none then ks ++ [keyR at_ x] else ks)
def ne1 (m : GM) : Prop := ∀ x ∈ m, x.2 ≠ []
theorem putG_ne {k : Ky} {x : List Val} : ∀ {m : GM}, ne1 m → ne1 (putG k x m)
  | [], _ => fun y hy => by simp [putG] at hy; subst hy; simp
  | z :: r, h => fun y hy => by
    unfold putG at hy
    split at hy
    · rcases List.mem_cons.1 hy with rfl | hy
      · simp
      · exact h y (by simp [hy])
    · rcases List.mem_cons.1 hy with rfl | hy
      · exact h y (by simp)
      · exact putG_ne (fun w hw => h w (by simp [hw])) y hy
theorem getG_ne {k : Ky} : ∀ {m : GM}, ne1 m → ∀ l, getG k m = some l → l ≠ []
  | [], _, l, h => by cases h
  | z :: r, hm, l, h => by
    unfold getG at h
    split at h
    · simp only [Option.some.injEq] at h; subst h; exact hm z (by simp)
    · exact getG_ne (fun w hw => hm w (by simp [hw])) l h
theorem keysG_len (at_ : Int) : ∀ (r : List (List Val)) (m : GM) (ks : List Ky), (keysG at_ r m ks).length ≤ ks.length + r.length
  | [], _, ks => by simp [keysG]
  | x :: r, m, ks => by
    unfold keysG
    refine Nat.le_trans (keysG_len at_ r _ _) ?_
    split <;> simp <;> omega
def sizeG : GM → Nat
  | [] => 0
  | y :: r => y.2.length + sizeG r
theorem sizeG_put (k : Ky) (x : List Val) : ∀ m, sizeG (putG k x m) = sizeG m + 1
  | [] => rfl
  | y :: r => by
    unfold putG
    split
    · simp only [sizeG, List.length_append, List.length_singleton]; omega
    · simp only [sizeG, sizeG_put k x r]; omega
theorem getG_size (k : Ky) : ∀ m l, getG k m = some l → l.length ≤ sizeG m
  | [], l, h => by cases h
  | y :: r, l, h => by
    unfold getG at h
    split at h
    · simp only [Option.some.injEq] at h; subst h; simp [sizeG]
    · have := getG_size k r l h; simp only [sizeG]; omega
theorem group2 (by_ at_ : Int) (sums : List PV) (c : List PV) (B : List PV) (R : GM → List Ky → Option PV) (r : List (List Val)) (hr : r.length ≤ 1000000000)
    (hR : ∀ (m : GM) (ks : List Ky), ks.length ≤ r.length → (W n_slices_SortFunc_bag_key_bag_key false [(AV.fx 0 3), (AV.pv (.fn n_bag_compare [] []))] [(Ob.fix 0 3 (ks.map keyP))]).bind (fun v45 => k_a0f1d3 v45 fun v46 v47 => L_bag_Group_4 sums c B (sums.length : Int) 0 (mpG m) [] v47 [(.int .i64 by_), (.int .i64 16)] [] [] []) = R m ks) :
    ∀ (k i : Nat) (m : GM) (ks : List Ky), i + k = r.length → ks.length ≤ i → sizeG m = i → ne1 m →
    L_bag_Group_2 by_ sums c B at_ (r.map rowp) (r.length : Int) (i : Int) (mpG m) [] (ks.map keyP) = R (foldG at_ (r.drop i) m) (keysG at_ (r.drop i) m ks)
  | 0, i, m, ks, h, hk, hs, hn => by
    rw [L_bag_Group_2_eq, show i = r.length by omega]
    simp only [ge_len, cond_false, List.drop_length, foldG, keysG]
    exact hR m ks (by omega)
  | k + 1, i, m, ks, h, hk, hs, hn => by
    have hi : i < r.length := by omega
    rw [L_bag_Group_2_eq, List.drop_eq_getElem_cons hi, foldG, keysG]
    have hget : ∀ o : Option (List (List Val)), PV.asSlice 0 ((o.map tabp).getD (.slice 0 [])) = some ((o.getD []).map rowp) := fun o => by cases o <;> rfl
    simp only [lt_len hi, nat_le, cond_true, Int.toNat_natCast, List.getElem?_map, List.getElem?_eq_getElem hi, Option.map_some, Option.bind_some, c_rowp, rowp_fold, w_of, c_g_i64_i64_mk, keyP_fold, keyP_mk, mfind_G, hget, List.length_map]
    have step : ∀ (ks' : List Ky), ks'.length ≤ i + 1 → J_bag_Group_3 by_ sums c B at_ (r[i].map Val.pv) (r.map rowp) (r.length : Int) (i : Int) (mpG m) [] (ks'.map keyP) (keyR at_ r[i]).1 (keyR at_ r[i]).2 = R (foldG at_ (r.drop (i + 1)) (putG (keyR at_ r[i]) r[i] m)) (keysG at_ (r.drop (i + 1)) (putG (keyR at_ r[i]) r[i] m) ks') := fun ks' hk' => by
      have hsz : ((getG (keyR at_ r[i]) m).getD []).length ≤ i := by
        cases hg : getG (keyR at_ r[i]) m with
        | none => simp
        | some l => have := getG_size _ _ _ hg; simpa [hs] using this
      rw [J_bag_Group_3_eq]
      simp only [keyP_fold, gidx_G, grow_G, Option.bind_some, List.length_map, rowp_fold, put_G, decide_true, Bool.and_self, cond_true, Bool.true_and, decide_eq_true (show ((getG (keyR at_ r[i]) m).getD []).length + 1 ≤ 4294967296 by omega)]
      rw [wrap_succ (by omega)]
      exact group2 by_ at_ sums c B R r hr hR k (i + 1) _ ks' (by omega) hk' (by rw [sizeG_put, hs]) (putG_ne hn)
    cases hg : getG (keyR at_ r[i]) m with
    | none =>
      have := step (ks ++ [keyR at_ r[i]]) (by simp; omega)
      rw [List.map_append] at this
      simp only [Option.getD_none, List.length_nil, Int.natCast_zero, beq_self_eq_true, cond_true, Bool.true_and, if_true, decide_eq_true (show ks.length + 1 ≤ 4294967296 by omega)]
      exact this
    | some l =>
      have hl := getG_ne hn l hg
      have hpos : 0 < l.length := List.length_pos_iff.2 hl
      have := step ks (by omega)
      simp only [Option.getD_some, if_neg (show ¬ (some l = none) by simp)]
      rw [beq_f (by omega), cond_false]
      exact this
theorem group4 (sums : List Int) (c B : List PV) (m : List (PV × PV)) (h1 l55 l57 l58 l59 : List PV) (hs : sums.length ≤ 100) : ∀ (k i : Nat) (acc : List Int), i + k = sums.length → acc.length ≤ 2 + i →
    L_bag_Group_4 (sums.map intp) c B (sums.length : Int) (i : Int) m h1 l55 (acc.map intp) l57 l58 l59 = L_bag_Group_5 (sums.map intp) c B (l55.length : Int) 0 m h1 l55 ((acc ++ (List.range' (17 + i) k).map fun n : Nat => (n : Int)).map intp) l57 l58 l59
  | 0, i, acc, h, ha => by
    rw [L_bag_Group_4_eq, show i = sums.length by omega]
    simp
  | k + 1, i, acc, h, ha => by
    rw [L_bag_Group_4_eq]
    simp only [lt_len (show i < sums.length by omega), cond_true, List.length_map, Bool.true_and, decide_eq_true (show acc.length + 1 ≤ 4294967296 by omega)]
    rw [wrap_succ (by omega), show IntKind.wrap .i64 ((17 : Int) + (i : Int)) = ((17 + i : Nat) : Int) by rw [wrap64 (by omega) (by omega)]; omega]
    have := group4 sums c B m h1 l55 l57 l58 l59 hs k (i + 1) (acc ++ [((17 + i : Nat) : Int)]) (by omega) (by simp; omega)
    rw [List.map_append] at this
    rw [show [PV.int .i64 ((17 + i : Nat) : Int)] = [((17 + i : Nat) : Int)].map intp from rfl, this, List.range'_succ, List.map_cons, List.append_assoc]; rfl
def colG (c : List Int) (rows : List (List Val)) (s : Int) : Val := sumV (rows.map fun x => lookR c x s)
def rowG (c : List Int) (sums : List Int) (k : Ky) (rows : List (List Val)) : List Val := ⟨k.1, k.2⟩ :: ⟨0, (rows.length : Int)⟩ :: sums.map (colG c rows)
theorem group7 (sums : List PV) (c : List Int) (s : Int) (hin : inC c s = true) (rows : List (List Val)) (hw : ∀ x ∈ rows, x.length = c.length ∧ ROk x) (hl : rows.length ≤ 1000000000) (B : List PV) (A : List PV) (n5 i5 n6 i6 : Int) (m : List (PV × PV)) (h1 l55 l56 l57 l58 l59 : List PV) (a b : Int) (row : List Val) (hrow : row.length ≤ 1000) :
    ∀ (k i : Nat) (acc : List Val), i + k = rows.length → acc = (rows.take i).map (fun x => lookR c x s) →
    L_bag_Group_7 sums (c.map intp) B (idxI c (fun y => s == y)) n5 i5 A n6 i6 (tabp rows) (rows.length : Int) (i : Int) m h1 l55 l56 l57 l58 l59 a b (row.map Val.pv) (acc.map Val.pv) =
      L_bag_Group_6 sums (c.map intp) B n5 i5 A n6 (IntKind.wrap .i64 (i6 + 1)) m h1 l55 l56 l57 l58 l59 a b ((row ++ [colG c rows s]).map Val.pv)
  | 0, i, acc, h, ha => by
    have hi : i = rows.length := by omega
    subst hi
    rw [List.take_length] at ha
    rw [L_bag_Group_7_eq]
    have hok : ROk acc := by
      subst ha
      intro v hv
      obtain ⟨x, hx, rfl⟩ := List.mem_map.1 hv
      exact lookR_ok c (hw x hx).2 s
    have hs := w_Sum acc hok (by subst ha; rw [List.length_map]; omega)
    simp only [ge_len, cond_false, rowp_fold, hs, Option.bind_some, Val.c_mk, List.length_map, Bool.true_and, decide_eq_true (show row.length + 1 ≤ 4294967296 by omega), cond_true, Val.fold]
    subst ha
    rw [List.map_append]; rfl
  | k + 1, i, acc, h, ha => by
    have hi : i < rows.length := by omega
    have hx := hw _ (List.getElem_mem hi)
    obtain ⟨h1', h2'⟩ := lookR_in hin hx.1
    rw [L_bag_Group_7_eq]
    have hal : acc.length = i := by subst ha; rw [List.length_map, List.length_take]; omega
    simp only [lt_len hi, nat_le, cond_true, Int.toNat_natCast, tabp, PV.asSlice, BEq.rfl, List.getElem?_map, List.getElem?_eq_getElem hi, Option.map_some, Option.bind_some, c_rowp, decide_eq_true h2', h1', Val.c_mk, List.length_map, Bool.true_and, decide_eq_true (show acc.length + 1 ≤ 4294967296 by omega), Val.fold]
    rw [wrap_succ (by omega)]
    have := group7 sums c s hin rows hw hl B A n5 i5 n6 i6 m h1 l55 l56 l57 l58 l59 a b row hrow k (i + 1) (acc ++ [lookR c rows[i] s]) (by omega) (by rw [ha, ← List.take_append_getElem hi, List.map_append]; rfl)
    rw [List.map_append] at this
    exact this
theorem group6 (sums : List Int) (c : List Int) (hin : ∀ s ∈ sums, inC c s = true) (hs : sums.length ≤ 100) (hc : c.length ≤ 9223372036854775807) (rows : List (List Val)) (hw : ∀ x ∈ rows, x.length = c.length ∧ ROk x) (hl : rows.length ≤ 1000000000) (B : List PV) (n5 i5 : Int) (m : GM) (kk : Ky) (hg : getG kk m = some rows) (h1 l55 l56 l57 l58 : List PV) (out : List (List Val)) (ho : out.length ≤ 1000000000) :
    ∀ (k i : Nat) (row : List Val), i + k = sums.length → row = ⟨kk.1, kk.2⟩ :: ⟨0, (rows.length : Int)⟩ :: (sums.take i).map (colG c rows) →
    L_bag_Group_6 (sums.map intp) (c.map intp) B n5 i5 (sums.map intp) (sums.length : Int) (i : Int) (mpG m) h1 l55 l56 l57 l58 (out.map rowp) kk.1 kk.2 (row.map Val.pv) =
      L_bag_Group_5 (sums.map intp) (c.map intp) B n5 (IntKind.wrap .i64 (i5 + 1)) (mpG m) h1 l55 l56 l57 l58 ((out ++ [rowG c sums kk rows]).map rowp)
  | 0, i, row, h, hr => by
    have hi : i = sums.length := by omega
    subst hi
    rw [List.take_length] at hr
    rw [L_bag_Group_6_eq]
    simp only [ge_len, cond_false, List.length_map, Bool.true_and, decide_eq_true (show out.length + 1 ≤ 4294967296 by omega), cond_true, rowp_fold]
    subst hr
    rw [List.map_append]; rfl
  | k + 1, i, row, h, hr => by
    have hi : i < sums.length := by omega
    rw [L_bag_Group_6_eq]
    have hix := w_Index c sums[i] hc
    have hrl : row.length = i + 2 := by subst hr; simp; omega
    simp only [lt_len hi, nat_le, cond_true, Int.toNat_natCast, List.getElem?_map, List.getElem?_eq_getElem hi, Option.map_some, Option.bind_some, c_intp, intsp_fold, hix, c_i64_mk, keyP_fold, mfind_G, hg, Option.getD_some, tabp, PV.asSlice, BEq.rfl, List.length_map]
    have h7 := group7 (sums.map intp) c sums[i] (hin _ (List.getElem_mem hi)) rows hw hl B (sums.map intp) n5 i5 (sums.length : Int) (i : Int) (mpG m) h1 l55 l56 l57 l58 (out.map rowp) kk.1 kk.2 row (by omega) rows.length 0 [] (by omega) (by simp)
    refine h7.trans ?_
    rw [wrap_succ (by omega)]
    exact group6 sums c hin hs hc rows hw hl B n5 i5 m kk hg h1 l55 l56 l57 l58 out ho k (i + 1) (row ++ [colG c rows sums[i]]) (by omega) (by rw [hr, ← List.take_append_getElem hi, List.map_append]; rfl)
theorem group5 (sums : List Int) (c : List Int) (hin : ∀ s ∈ sums, inC c s = true) (hs : sums.length ≤ 100) (hc : c.length ≤ 9223372036854775807) (B : List PV) (m : GM) (ks : List Ky) (hk : ks.length ≤ 1000000000) (hm : ∀ k ∈ ks, ∃ rows, getG k m = some rows ∧ rows.length ≤ 1000000000 ∧ ∀ x ∈ rows, x.length = c.length ∧ ROk x) (h1 l57 l58 : List PV) (cols : List Int) :
    ∀ (k i : Nat) (out : List (List Val)), i + k = ks.length → out.length = i →
    L_bag_Group_5 (sums.map intp) (c.map intp) B (ks.length : Int) (i : Int) (mpG m) h1 (ks.map keyP) (cols.map intp) l57 l58 (out.map rowp) = some (.tup [bagp cols (out ++ (ks.drop i).map fun k => rowG c sums k ((getG k m).getD [])), .bool true])
  | 0, i, out, h, ho => by
    rw [L_bag_Group_5_eq, show i = ks.length by omega]
    simp only [ge_len, cond_false, List.drop_length, List.map_nil, List.append_nil]; rfl
  | k + 1, i, out, h, ho => by
    have hi : i < ks.length := by omega
    obtain ⟨rows, hg, hrl, hw⟩ := hm _ (List.getElem_mem hi)
    rw [L_bag_Group_5_eq]
    have hv := e_val_Of (rows.length : Int)
    simp only [lt_len hi, nat_le, Bool.and_self, cond_true, Int.toNat_natCast, Nat.zero_add, List.length_map, List.getElem?_map, List.getElem?_eq_getElem hi, Option.map_some, Option.bind_some, keyP_mk, keyP_fold, mfind_G, hg, Option.getD_some, tabp, PV.asSlice, BEq.rfl, hv, c_g_i64_i64_mk]
    have h6 := group6 sums c hin hs hc rows hw hrl B (ks.length : Int) (i : Int) m ks[i] hg h1 (ks.map keyP) (cols.map intp) l57 l58 out (by omega) sums.length 0 [⟨ks[i].1, ks[i].2⟩, ⟨0, (rows.length : Int)⟩] (by omega) (by simp)
    refine h6.trans ?_
    rw [wrap_succ (by omega)]
    have := group5 sums c hin hs hc B m ks hk hm h1 l57 l58 cols k (i + 1) (out ++ [rowG c sums ks[i] rows]) (by omega) (by simp [ho])
    rw [this, List.drop_eq_getElem_cons hi, List.map_cons, hg, List.append_assoc]; rfl
end Go.Cf

namespace Go.Cf
open Go Go.Ab
set_option linter.unusedVariables false
set_option linter.unusedSimpArgs false
theorem w_idxInt (l : List Int) (g : Nat) (fs cs : List PV) (f : Int → Bool) (hl : l.length ≤ 9223372036854775807) (hf : ∀ x ∈ l, wc W g (fs ++ [.int .i64 x] ++ cs) = some (.bool (f x))) :
    wc W n_slices_IndexFunc_int_int [intsp l, .fn g fs cs] = some (.int .i64 (idxI l f)) := by
  unfold intsp
  rw [e_slices_IndexFunc_int_int, List.length_map]
  refine loop_idx (fun i => L_slices_IndexFunc_int_int_1 (l.map intp) (.fn g fs cs) l.length i) l f (fun n => some (.int .i64 n)) (fun i hi => ?_) ?_
  · rw [L_slices_IndexFunc_int_int_1_eq]
    simp only [lt_len hi, nat_le, cond_true, Int.toNat_natCast, List.getElem?_map, List.getElem?_eq_getElem hi, Option.map_some, Option.bind_some, c_intp, asFn_mk]
    rw [hf _ (List.getElem_mem hi), wrap64 (by omega) (by omega)]
    simp only [Option.bind_some, c_b_mk]
  · rw [L_slices_IndexFunc_int_int_1_eq]; simp
theorem w_anyInt (l : List Int) (g : Nat) (fs cs : List PV) (f : Int → Bool) (hl : l.length ≤ 9223372036854775807) (hf : ∀ x ∈ l, wc W g (fs ++ [.int .i64 x] ++ cs) = some (.bool (f x))) :
    wc W n_slices_ContainsFunc_int_int [intsp l, .fn g fs cs] = some (.bool (l.any f)) := by
  have h := e_slices_ContainsFunc_int_int (l.map intp) (.fn g fs cs)
  rw [intsp_fold] at h
  rw [h, w_idxInt l g fs cs f hl hf]
  simp [← idxI_any]
theorem w_Contains (l : List Int) (n : Int) (hl : l.length ≤ 9223372036854775807) : wc W n_slices_Contains_int_int [intsp l, .int .i64 n] = some (.bool (inC l n)) := by
  have h := e_slices_Contains_int_int (l.map intp) n
  rw [intsp_fold, w_Index l n hl] at h
  rw [h]
  have h1 : decide (idxI l (fun y => n == y) ≥ 0) = inC l n := by
    have := idxI_lt (c := l) (x := n)
    by_cases hh : idxI l (fun y => n == y) < 0
    · rw [decide_eq_true hh] at this
      rw [decide_eq_false (by omega)]
      cases h2 : inC l n with
      | false => rfl
      | true => rw [h2] at this; cases this
    · rw [decide_eq_false hh] at this
      rw [decide_eq_true (by omega)]
      cases h2 : inC l n with
      | true => rfl
      | false => rw [h2] at this; cases this
  simp only [Option.bind_some, c_i64_mk, h1]
def hasK (at_ : Int) (k : Ky) (x : List Val) : Bool := decide (k = keyR at_ x)
theorem getG_put (k q : Ky) (x : List Val) : ∀ m : GM, getG k (putG q x m) = if k = q then some ((getG k m).getD [] ++ [x]) else getG k m
  | [] => by simp only [putG, getG]; split <;> simp
  | y :: r => by
    by_cases h : q = y.1
    · simp only [putG, if_pos h, getG]
      by_cases hk : k = q
      · rw [if_pos hk, if_pos (hk.trans h), if_pos (hk.trans h)]; rfl
      · rw [if_neg hk, if_neg (fun e => hk (e.trans h.symm)), if_neg (fun e => hk (e.trans h.symm))]
    · simp only [putG, if_neg h, getG]
      by_cases hk : k = y.1
      · rw [if_pos hk, if_pos hk, if_neg (fun e => h (e.symm.trans hk))]
      · rw [if_neg hk, if_neg hk, getG_put k q x r]
theorem getG_fold (at_ : Int) (k : Ky) : ∀ (r : List (List Val)) (m : GM), (getG k (foldG at_ r m)).getD [] = (getG k m).getD [] ++ r.filter (hasK at_ k)
  | [], m => by simp [foldG]
  | x :: r, m => by
    rw [foldG, getG_fold at_ k r, getG_put, List.filter_cons]
    unfold hasK
    by_cases h : k = keyR at_ x
    · rw [if_pos h, decide_eq_true h]; simp
    · rw [if_neg h, decide_eq_false h]; simp
theorem getG_some (at_ : Int) (k : Ky) : ∀ (r : List (List Val)) (m : GM), (getG k (foldG at_ r m) ≠ none) ↔ (getG k m ≠ none ∨ ∃ x ∈ r, k = keyR at_ x)
  | [], m => by simp [foldG]
  | x :: r, m => by
    rw [foldG, getG_some at_ k r, getG_put]
    by_cases h : k = keyR at_ x
    · rw [if_pos h]; simp [h]
    · rw [if_neg h]; simp [h]
theorem keysG_spec (at_ : Int) : ∀ (r : List (List Val)) (m : GM) (ks : List Ky), (∀ k, k ∈ ks ↔ getG k m ≠ none) → ks.Nodup → (keysG at_ r m ks).Nodup ∧ ∀ k, k ∈ keysG at_ r m ks ↔ getG k (foldG at_ r m) ≠ none
  | [], m, ks, h, hn => ⟨hn, h⟩
  | x :: r, m, ks, h, hn => by
    rw [keysG, foldG]
    refine keysG_spec at_ r _ _ (fun k => ?_) ?_
    · rw [getG_put]
      by_cases hx : getG (keyR at_ x) m = none
      · rw [if_pos hx, List.mem_append, h k, List.mem_singleton]
        by_cases e : k = keyR at_ x
        · rw [if_pos e]; simp [e]
        · rw [if_neg e]; simp [e]
      · rw [if_neg hx, h k]
        by_cases e : k = keyR at_ x
        · rw [if_pos e, e]; simp [hx]
        · rw [if_neg e]
    · split
      · rename_i hx
        refine List.nodup_append.2 ⟨hn, by simp, fun a ha b hb => ?_⟩
        simp only [List.mem_singleton] at hb
        subst hb
        intro e; subst e
        exact (h _).1 ha hx
      · exact hn
def keysB (at_ : Int) (r : List (List Val)) : List Ky := keysG at_ r [] []
theorem keysB_nodup (at_ : Int) (r : List (List Val)) : (keysB at_ r).Nodup := (keysG_spec at_ r [] [] (fun k => by simp [getG]) (by simp)).1
theorem keysB_mem (at_ : Int) (r : List (List Val)) (k : Ky) : k ∈ keysB at_ r ↔ ∃ x ∈ r, k = keyR at_ x := by
  unfold keysB
  rw [(keysG_spec at_ r [] [] (fun k => by simp [getG]) (by simp)).2 k, getG_some]
  simp [getG]
theorem keysB_get (at_ : Int) (r : List (List Val)) (k : Ky) (h : k ∈ keysB at_ r) : getG k (foldG at_ r []) = some (r.filter (hasK at_ k)) := by
  have h1 := (keysG_spec at_ r [] [] (fun k => by simp [getG]) (by simp)).2 k |>.1 h
  have h2 := getG_fold at_ k r []
  cases hg : getG k (foldG at_ r []) with
  | none => exact absurd hg h1
  | some l => rw [hg] at h2; simpa [getG] using h2
def colsG (by_ : Int) (n : Nat) : List Int := by_ :: 16 :: (List.range' 17 n).map fun n : Nat => (n : Int)
def rowsG (c : List Int) (r : List (List Val)) (by_ : Int) (sums : List Int) : List (List Val) :=
  (sortKeys (keysB (idxI c fun x => by_ == x) r)).map fun k => rowG c sums k (r.filter (hasK (idxI c fun x => by_ == x) k))
def groupB (c : List Int) (r : List (List Val)) (by_ : Int) (sums : List Int) : Option (List Int × List (List Val)) :=
  bif mayB c r && inC c by_ && decide (sums.length ≤ 4) && sums.all (inC c) then some (colsG by_ sums.length, rowsG c r by_ sums) else none
theorem w_Group (c : List Int) (r : List (List Val)) (by_ : Int) (sums : List Int) (hc : c.length ≤ 9223372036854775807) (hr : r.length ≤ 1000000000) (hl : ∀ x ∈ r, x.length ≤ 9223372036854775807) (hok : ∀ x ∈ r, ROk x) :
    wc W n_bag_Group [bagp c r, .int .i64 by_, intsp sums] = some (bagR (groupB c r by_ sums)) := by
  have h := e_bag_Group (c.map intp) (r.map rowp) by_ (sums.map intp)
  rw [intsp_fold, intsp_fold, tabp_fold, bagp_fold] at h
  rw [h, w_Index c by_ hc, w_bag_May c r hc (by omega) hl]
  simp only [Option.bind_some, c_i64_mk, c_b_mk, List.length_map]
  unfold groupB
  cases hm : mayB c r with
  | false => rfl
  | true =>
  simp only [Bool.not_true, cond_false, Bool.true_and, idxI_lt]
  cases hb : inC c by_ with
  | false => rfl
  | true =>
  simp only [Bool.not_true, cond_false, Bool.true_and]
  rcases Nat.lt_or_ge 4 sums.length with hs | hs
  · rw [decide_eq_true (show ((sums.length : Nat) : Int) > 4 by omega), decide_eq_false (show ¬ sums.length ≤ 4 by omega)]; rfl
  rw [decide_eq_false (show ¬ ((sums.length : Nat) : Int) > 4 by omega), decide_eq_true hs]
  have hany := w_anyInt sums n_bag_Group_1 [] [.imm 3 (bagp c r) 0] (fun s => !inC c s) (by omega) (fun s _ => by
    have h1 := e_bag_Group_1 s (c.map intp) (r.map rowp)
    rw [intsp_fold, tabp_fold, bagp_fold, w_Contains c s hc] at h1
    simp only [Option.bind_some, c_b_mk] at h1
    exact h1)
  rw [hany]
  simp only [cond_false, Option.bind_some, c_b_mk, Bool.true_and]
  have ha := any_not sums (inC c)
  cases hall : sums.all (inC c) with
  | false =>
    rw [hall] at ha
    rw [show (sums.any fun s => !inC c s) = true by cases hx : (sums.any fun s => !inC c s) <;> simp_all]; rfl
  | true =>
    rw [hall] at ha
    rw [show (sums.any fun s => !inC c s) = false by cases hx : (sums.any fun s => !inC c s) <;> simp_all]
    simp only [cond_false, cond_true]
    rw [J_bag_Group_1_eq, List.length_map]
    have hmr := mayB_row hm
    have hin : ∀ s ∈ sums, inC c s = true := List.all_eq_true.1 hall
    have key := group2 by_ (idxI c fun x => by_ == x) (sums.map intp) (c.map intp) (r.map rowp) (fun m ks => (W n_slices_SortFunc_bag_key_bag_key false [(AV.fx 0 3), (AV.pv (.fn n_bag_compare [] []))] [(Ob.fix 0 3 (ks.map keyP))]).bind (fun v45 => k_a0f1d3 v45 fun v46 v47 => L_bag_Group_4 (sums.map intp) (c.map intp) (r.map rowp) ((sums.map intp).length : Int) 0 (mpG m) [] v47 [(.int .i64 by_), (.int .i64 16)] [] [] [])) r hr (fun m ks hk => rfl) r.length 0 [] [] (by omega) (by simp) rfl (fun x hx => by simp at hx)
    simp only [List.drop_zero, List.map_nil] at key
    refine key.trans ?_
    have hkl : (keysB (idxI c fun x => by_ == x) r).length ≤ r.length := by have := keysG_len (idxI c fun x => by_ == x) r [] []; simpa [keysB] using this
    have hsk := x_slices_SortFunc_bag_key_bag_key 0 (keysB (idxI c fun x => by_ == x) r) (by omega)
    show (W n_slices_SortFunc_bag_key_bag_key false [(AV.fx 0 3), (AV.pv (.fn n_bag_compare [] []))] [(Ob.fix 0 3 ((keysB (idxI c fun x => by_ == x) r).map keyP))]).bind _ = _
    rw [hsk]
    simp only [Option.bind_some, k_a0f1d3_mk, List.length_map]
    have g4 := group4 sums (c.map intp) (r.map rowp) (mpG (foldG (idxI c fun x => by_ == x) r [])) [] ((sortKeys (keysB (idxI c fun x => by_ == x) r)).map keyP) [] [] [] (by omega) sums.length 0 [by_, 16] (by omega) (by simp)
    have hgk : ∀ k ∈ sortKeys (keysB (idxI c fun x => by_ == x) r), ∃ rows, getG k (foldG (idxI c fun x => by_ == x) r []) = some rows ∧ rows.length ≤ 1000000000 ∧ ∀ x ∈ rows, x.length = c.length ∧ ROk x := fun k hk => by
      have hk' := (sortKeys_perm _).mem_iff.1 hk
      refine ⟨_, keysB_get _ r k hk', Nat.le_trans (List.length_filter_le _ _) hr, fun x hx => ?_⟩
      have hx' := (List.mem_filter.1 hx).1
      exact ⟨(hmr.2.2 x hx').1, hok x hx'⟩
    have g5 := group5 sums c hin (by omega) hc (r.map rowp) (foldG (idxI c fun x => by_ == x) r []) (sortKeys (keysB (idxI c fun x => by_ == x) r)) (by rw [sortKeys_len]; omega) hgk [] [] [] (colsG by_ sums.length) (sortKeys (keysB (idxI c fun x => by_ == x) r)).length 0 [] (by omega) rfl
    simp only [List.length_map] at g4 g5
    refine g4.trans ?_
    refine g5.trans ?_
    show some (PV.tup [bagp (colsG by_ sums.length) _, .bool true]) = some (.tup [bagp (colsG by_ sums.length) (rowsG c r by_ sums), .bool true])
    congr 4
    simp only [List.nil_append, List.drop_zero]
    unfold rowsG
    refine List.map_congr_left fun k hk => ?_
    rw [keysB_get _ r k ((sortKeys_perm _).mem_iff.1 hk)]; rfl
end Go.Cf

namespace Go.Cf
open Go Go.Ab
set_option linter.unusedVariables false
set_option linter.unusedSimpArgs false
theorem mayB_perm {c : List Int} {r s : List (List Val)} (h : r.Perm s) : mayB c r = mayB c s := by
  unfold mayB
  have h1 : r.all (rowB c.length) = s.all (rowB c.length) := by
    rw [Bool.eq_iff_iff, List.all_eq_true, List.all_eq_true]
    exact ⟨fun k x hx => k x (h.mem_iff.2 hx), fun k x hx => k x (h.mem_iff.1 hx)⟩
  rw [h1, h.length_eq]
theorem keysB_perm {at_ : Int} {r s : List (List Val)} (h : r.Perm s) : sortKeys (keysB at_ r) = sortKeys (keysB at_ s) := by
  have hp : (keysB at_ r).Perm (keysB at_ s) := (List.perm_ext_iff_of_nodup (keysB_nodup at_ r) (keysB_nodup at_ s)).2 fun k => by
    rw [keysB_mem, keysB_mem]
    exact ⟨fun ⟨x, hx, e⟩ => ⟨x, h.mem_iff.1 hx, e⟩, fun ⟨x, hx, e⟩ => ⟨x, h.mem_iff.2 hx, e⟩⟩
  exact sorted_one ((sortKeys_perm _).trans (hp.trans (sortKeys_perm _).symm)) (sortKeys_sorted _) (sortKeys_sorted _)
theorem hasK_eqk (at_ : Int) (x : List Val) : hasK at_ (keyR at_ x) = eqk (leR at_) x := by
  funext y
  rw [Bool.eq_iff_iff]
  unfold hasK eqk
  rw [decide_eq_true_eq, Bool.and_eq_true, leR_iff, leR_iff, Prod.ext_iff]
  omega
theorem rowsG_sort (c : List Int) (r : List (List Val)) (by_ : Int) (sums : List Int) : rowsG c (sortB c r by_) by_ sums = rowsG c r by_ sums := by
  obtain ⟨s1, s2⟩ := sortR_spec (idxI c (fun x => by_ == x)) r
  have e1 : sortB c r by_ = sortR (idxI c (fun x => by_ == x)) r := rfl
  unfold rowsG
  rw [e1, keysB_perm s2.perm]
  refine List.map_congr_left fun k hk => ?_
  obtain ⟨x, hx, rfl⟩ := (keysB_mem _ _ _).1 ((sortKeys_perm _).mem_iff.1 hk)
  rw [hasK_eqk, s2.filt]
theorem sum_zero : ∀ l : List Ky, (l.map fun _ => (0 : Nat)).sum = 0
  | [] => rfl
  | _ :: l => by rw [List.map_cons, List.sum_cons, sum_zero l]
theorem hasK_cons (at_ : Int) (x : List Val) (r : List (List Val)) (k : Ky) : ((x :: r).filter (hasK at_ k)).length = (r.filter (hasK at_ k)).length + if k = keyR at_ x then 1 else 0 := by
  rw [List.filter_cons]
  by_cases e : k = keyR at_ x
  · rw [if_pos e, if_pos (show hasK at_ k x = true from decide_eq_true e)]; rfl
  · rw [if_neg e, if_neg (show ¬ hasK at_ k x = true by unfold hasK; rw [decide_eq_false e]; simp)]; rfl
theorem sum_cons (at_ : Int) (x : List Val) (r : List (List Val)) : ∀ (l : List Ky), l.Nodup → (l.map fun k => ((x :: r).filter (hasK at_ k)).length).sum = (l.map fun k => (r.filter (hasK at_ k)).length).sum + if keyR at_ x ∈ l then 1 else 0
  | [], _ => by simp
  | k :: l, hl => by
    have h2 := List.nodup_cons.1 hl
    rw [List.map_cons, List.sum_cons, List.map_cons, List.sum_cons, sum_cons at_ x r l h2.2, hasK_cons]
    by_cases e : k = keyR at_ x
    · have h3 : keyR at_ x ∉ l := by rw [← e]; exact h2.1
      rw [if_pos e, if_neg h3, if_pos (show keyR at_ x ∈ k :: l by rw [e]; exact List.mem_cons_self)]; omega
    · rw [if_neg e]
      by_cases e2 : keyR at_ x ∈ l
      · rw [if_pos e2, if_pos (List.mem_cons_of_mem _ e2)]; omega
      · rw [if_neg e2, if_neg (show ¬ keyR at_ x ∈ k :: l by simp only [List.mem_cons, not_or]; exact ⟨fun q => e q.symm, e2⟩)]; omega
theorem sum_keys (at_ : Int) (ks : List Ky) (hn : ks.Nodup) : ∀ (r : List (List Val)), (∀ x ∈ r, keyR at_ x ∈ ks) → (ks.map fun k => (r.filter (hasK at_ k)).length).sum = r.length
  | [], _ => sum_zero ks
  | x :: r, h => by
    rw [sum_cons at_ x r ks hn, sum_keys at_ ks hn r (fun y hy => h y (by simp [hy])), if_pos (h x (by simp))]; rfl
theorem keyR_may {c : List Int} {r : List (List Val)} {by_ : Int} (hm : mayB c r = true) (hb : inC c by_ = true) {x : List Val} (hx : x ∈ r) : mayV ⟨(keyR (idxI c fun y => by_ == y) x).1, (keyR (idxI c fun y => by_ == y) x).2⟩ = true := by
  have h1 := (mayB_row hm).2.2 x hx
  obtain ⟨h2, h3⟩ := lookR_in hb h1.1
  unfold keyR
  rw [decide_eq_false (by omega), cond_false, h2]
  have hv : mayV (lookR c x by_) = true := List.all_eq_true.1 h1.2 _ (List.mem_of_getElem? h2)
  simp only [hv, cond_true]
theorem keyR_rowG (c sums : List Int) (k : Ky) (rows : List (List Val)) (h : mayV ⟨k.1, k.2⟩ = true) : keyR 0 (rowG c sums k rows) = k := by
  unfold keyR rowG
  simp [h]
theorem rowsG_sorted {c : List Int} {r : List (List Val)} {by_ : Int} (hm : mayB c r = true) (hb : inC c by_ = true) (sums : List Int) : ordB 0 (rowsG c r by_ sums) = true := by
  rw [ordB_iff]
  unfold rowsG
  refine List.pairwise_map.2 ?_
  have hs := sortKeys_sorted (keysB (idxI c fun x => by_ == x) r)
  have hmem : ∀ k ∈ sortKeys (keysB (idxI c fun x => by_ == x) r), mayV ⟨k.1, k.2⟩ = true := fun k hk => by
    obtain ⟨x, hx, rfl⟩ := (keysB_mem _ _ _).1 ((sortKeys_perm _).mem_iff.1 hk)
    exact keyR_may hm hb hx
  refine hs.imp_of_mem fun {a b} ha hb' h => ?_
  unfold leR
  rw [keyR_rowG _ _ _ _ (hmem a ha), keyR_rowG _ _ _ _ (hmem b hb')]
  exact h
end Go.Cf

namespace Go.Cf
open Go Go.Ab
set_option linter.unusedVariables false
set_option linter.unusedSimpArgs false
theorem pick4 (c cols : List Int) (row : List Val) (hl : row.length = c.length) (hin : ∀ x ∈ cols, inC c x = true) (hn : cols.length ≤ 100) (A : List PV) (n i : Int) (X Y Z : List PV) (out : List (List Val)) (ho : out.length ≤ 4294967295) : ∀ (k j : Nat) (acc : List Val), j + k = cols.length → acc.length = j →
    L_bag_Pick_4 (row.map Val.pv) A n i (cols.length : Int) (j : Int) ((atC c cols).map intp) X Y Z (out.map rowp) (acc.map Val.pv) =
      L_bag_Pick_3 A n (IntKind.wrap .i64 (i + 1)) ((atC c cols).map intp) X Y Z ((out ++ [acc ++ (cols.drop j).map (lookR c row)]).map rowp)
  | 0, j, acc, h, ha => by
    rw [L_bag_Pick_4_eq, show j = cols.length by omega]
    simp only [ge_len, cond_false, List.length_map, Bool.true_and, decide_eq_true (show out.length + 1 ≤ 4294967296 by omega), cond_true, List.drop_length, List.map_nil, List.append_nil, List.map_append, List.map_cons]
    rfl
  | k + 1, j, acc, h, ha => by
    have hj : j < cols.length := by omega
    have hj2 : j < (atC c cols).length := by unfold atC; rw [List.length_map]; exact hj
    obtain ⟨h1, h2⟩ := lookR_in (hin _ (List.getElem_mem hj)) hl
    have he : (atC c cols)[j] = idxI c (fun y => cols[j] == y) := by simp only [atC, List.getElem_map]
    have hlen : ((atC c cols).map intp).length = cols.length := by unfold atC; rw [List.length_map, List.length_map]
    rw [L_bag_Pick_4_eq, hlen]
    simp only [lt_len hj, nat_le, Bool.and_self, cond_true, Int.toNat_natCast, Nat.zero_add, List.getElem?_map, List.getElem?_eq_getElem hj2, Option.map_some, Option.bind_some, c_intp, he, decide_eq_true h2, h1, Val.c_mk, Val.fold, List.length_map, Bool.true_and, decide_eq_true (show acc.length + 1 ≤ 4294967296 by omega)]
    rw [wrap_succ (by omega)]
    have := pick4 c cols row hl hin hn A n i X Y Z out ho k (j + 1) (acc ++ [lookR c row cols[j]]) (by omega) (by rw [List.length_append, List.length_singleton]; omega)
    rw [List.map_append] at this
    rw [List.append_assoc, List.singleton_append] at this
    rw [List.drop_eq_getElem_cons hj, List.map_cons]
    exact this
theorem pick3 (c cols : List Int) (r : List (List Val)) (hl : ∀ x ∈ r, x.length = c.length) (hin : ∀ x ∈ cols, inC c x = true) (hn : cols.length ≤ 100) (hr : r.length ≤ 4294967295) (X Y : List PV) : ∀ (k i : Nat) (acc : List (List Val)), i + k = r.length → acc.length = i →
    L_bag_Pick_3 (r.map rowp) (r.length : Int) (i : Int) ((atC c cols).map intp) X Y (cols.map intp) (acc.map rowp) = some (.tup [bagp cols (acc ++ (r.drop i).map (pickR c cols)), .bool true])
  | 0, i, acc, h, ha => by
    rw [L_bag_Pick_3_eq, show i = r.length by omega]
    simp [ge_len]
  | k + 1, i, acc, h, ha => by
    have hi : i < r.length := by omega
    rw [L_bag_Pick_3_eq]
    have hlen : ((atC c cols).map intp).length = cols.length := by unfold atC; rw [List.length_map, List.length_map]
    simp only [lt_len hi, nat_le, cond_true, Int.toNat_natCast, List.getElem?_map, List.getElem?_eq_getElem hi, Option.map_some, Option.bind_some, c_rowp, hlen]
    have h4 := pick4 c cols r[i] (hl _ (List.getElem_mem hi)) hin hn (r.map rowp) (r.length : Int) (i : Int) X Y (cols.map intp) acc (by omega) cols.length 0 [] (by omega) rfl
    refine h4.trans ?_
    rw [wrap_succ (by omega), List.drop_zero, List.nil_append]
    have := pick3 c cols r hl hin hn hr X Y k (i + 1) (acc ++ [cols.map (lookR c r[i])]) (by omega) (by rw [List.length_append, List.length_singleton]; omega)
    rw [this, List.drop_eq_getElem_cons hi, List.map_cons, List.append_assoc]
    rfl
theorem pick2 (c cols : List Int) (r : List (List Val)) (hl : ∀ x ∈ r, x.length = c.length) (hc : c.length ≤ 100) (hn : cols.length ≤ 100) (hr : r.length ≤ 4294967295) : ∀ (k i : Nat), i + k = cols.length → (∀ x ∈ cols.take i, inC c x = true) →
    L_bag_Pick_2 (cols.map intp) (c.map intp) (r.map rowp) (cols.map intp) (cols.length : Int) (i : Int) ((atC c (cols.take i)).map intp) =
      bif (cols.drop i).all (inC c) then some (.tup [bagp cols (r.map (pickR c cols)), .bool true]) else some (.tup [bagp [] [], .bool false])
  | 0, i, h, hin => by
    rw [L_bag_Pick_2_eq, show i = cols.length by omega]
    have hcl := x_slices_Clone_int_int (cols.map intp) (by rw [List.length_map]; omega)
    rw [intsp_fold] at hcl
    rw [show i = cols.length by omega, List.take_length] at hin
    simp only [ge_len, cond_false, List.drop_length, List.all_nil, cond_true, List.take_length, intsp_fold, hcl, Option.bind_some, c_intsp, List.length_map]
    have := pick3 c cols r hl hin hn hr [] [] r.length 0 [] (by omega) rfl
    simpa using this
  | k + 1, i, h, hin => by
    have hi : i < cols.length := by omega
    rw [L_bag_Pick_2_eq, List.drop_eq_getElem_cons hi, List.all_cons]
    simp only [lt_len hi, nat_le, cond_true, Int.toNat_natCast, List.getElem?_map, List.getElem?_eq_getElem hi, Option.map_some, Option.bind_some, c_intp, intsp_fold, w_Index c cols[i] (by omega), c_i64_mk, idxI_lt]
    cases hx : inC c cols[i] with
    | false => rfl
    | true =>
      have ht : (cols.take i).length = i := by rw [List.length_take]; omega
      have hlen : ((atC c (cols.take i)).map intp).length = i := by unfold atC; rw [List.length_map, List.length_map, ht]
      simp only [Bool.not_true, cond_false, Bool.true_and, hlen, decide_eq_true (show i + 1 ≤ 4294967296 by omega), cond_true]
      rw [wrap_succ (by omega)]
      have := pick2 c cols r hl hc hn hr k (i + 1) (by omega) (fun x hx' => by
        rw [List.take_succ_eq_append_getElem hi] at hx'
        rcases List.mem_append.1 hx' with h | h
        · exact hin x h
        · rw [List.mem_singleton] at h; rw [h]; exact hx)
      rw [List.take_succ_eq_append_getElem hi] at this
      unfold atC at this ⊢
      rw [List.map_append, List.map_append] at this
      exact this
def pickB (c : List Int) (r : List (List Val)) (cols : List Int) : Option (List Int × List (List Val)) := bif mayB c r && mayB cols [] && cols.all (inC c) then some (cols, r.map (pickR c cols)) else none
theorem w_Pick (c : List Int) (r : List (List Val)) (cols : List Int) (hc : c.length ≤ 9223372036854775807) (hr : r.length ≤ 9223372036854775807) (hl : ∀ x ∈ r, x.length ≤ 9223372036854775807) (hn : cols.length ≤ 9223372036854775807) :
    wc W n_bag_Pick [bagp c r, intsp cols] = some (bagR (pickB c r cols)) := by
  have h := e_bag_Pick (c.map intp) (r.map rowp) (cols.map intp)
  rw [intsp_fold, tabp_fold, bagp_fold, intsp_fold] at h
  have e0 : PV.agg [intsp cols, PV.slice 0 []] = bagp cols [] := rfl
  rw [h]
  simp only [e0, w_bag_May c r hc hr hl, w_bag_May cols [] hn (by simp) (by simp), Option.bind_some, c_b_mk]
  unfold pickB
  cases h1 : mayB c r with
  | false => rfl
  | true =>
    cases h2 : mayB cols [] with
    | false => rfl
    | true =>
      obtain ⟨a1, a2, a3⟩ := mayB_row h1
      obtain ⟨b1, _, _⟩ := mayB_row h2
      simp only [Bool.not_true, cond_false, Bool.and_self, Bool.true_and, J_bag_Pick_1_eq, List.length_map]
      have := pick2 c cols r (fun x hx => (a3 x hx).1) (by omega) (by omega) (by omega) cols.length 0 (by omega) (by simp)
      rw [List.take_zero, List.drop_zero] at this
      refine this.trans ?_
      cases cols.all (inC c) <;> rfl

theorem pick_self (c : List Int) (r : List (List Val)) : pickB c r c = bif mayB c r then some (c, r) else none := by
  unfold pickB
  cases h : mayB c r with
  | false => rfl
  | true =>
    have h1 : c.all (inC c) = true := List.all_eq_true.2 fun x hx => by unfold inC; exact decide_eq_true hx
    have hn := ((colsB_iff c).1 (mayB_parts h).1).2
    have hm : r.map (pickR c c) = r := by
      have h2 := (mayB_row h).2.2
      conv => rhs; rw [← List.map_id r]
      exact List.map_congr_left fun x hx => look_self hn (h2 x hx).1
    rw [mayB_nil h, h1, hm]; rfl
end Go.Cf

namespace Go.Cf
open Go Go.Ab
set_option linter.unusedVariables false
set_option linter.unusedSimpArgs false
abbrev CM := List (ByteArray × Int)
def mpC (m : CM) : List (PV × PV) := m.map fun x => (PV.str x.1, PV.int .i64 x.2)
def getC (k : ByteArray) : CM → Option Int
  | [] => none
  | x :: r => bif k.toList == x.1.toList then some x.2 else getC k r
def putC (k : ByteArray) (v : Int) : CM → CM
  | [] => [(k, v)]
  | x :: r => bif k.toList == x.1.toList then (k, v) :: r else x :: putC k v r
theorem eqS (a b : ByteArray) : eqP cfg 6 9 (.str a) (.str b) = some (a.toList == b.toList) := by rfl
theorem mfind_mp (k : ByteArray) : ∀ (m : CM), mfind (eqP cfg 6 9) (.str k) (mpC m) = some ((getC k m).map (PV.int .i64))
  | [] => rfl
  | x :: r => by
    show mfind (eqP cfg 6 9) (.str k) ((PV.str x.1, PV.int .i64 x.2) :: mpC r) = _
    simp only [mfind, eqS, Option.bind_some, getC]
    cases k.toList == x.1.toList with
    | true => rfl
    | false => exact mfind_mp k r
theorem mput_mp (k : ByteArray) (v : Int) : ∀ (m : CM), mput (eqP cfg 6 9) (.str k) (.int .i64 v) (mpC m) = some (mpC (putC k v m))
  | [] => rfl
  | x :: r => by
    show mput (eqP cfg 6 9) (.str k) (.int .i64 v) ((PV.str x.1, PV.int .i64 x.2) :: mpC r) = _
    simp only [mput, eqS, Option.bind_some, putC]
    cases h : k.toList == x.1.toList with
    | true =>
      have h' : sameP (.str x.1) (.str k) = true := by
        show (x.1.toList == k.toList) = true
        rw [beq_iff_eq] at h ⊢; exact h.symm
      rw [h']; rfl
    | false =>
      simp only [cond_false, mput_mp k v r, Option.bind_some]; rfl
theorem zeros_mp : ∀ (m : CM), zeros (mpC m) = some (m.all fun x => x.2 == 0)
  | [] => rfl
  | x :: r => by
    show (zeros (mpC r)).map (fun b => (x.2 == 0) && b) = _
    rw [zeros_mp r]; rfl
def getL (L : List UInt8) : CM → Int
  | [] => 0
  | x :: r => if L = x.1.toList then x.2 else getL L r
theorem getC_getL (k : ByteArray) : ∀ (m : CM), (getC k m).getD 0 = getL k.toList m
  | [] => rfl
  | x :: r => by
    simp only [getC, getL]
    by_cases h : k.toList = x.1.toList
    · rw [if_pos h, show (k.toList == x.1.toList) = true by rw [h]; exact beq_self_eq_true _]; rfl
    · rw [if_neg h, show (k.toList == x.1.toList) = false by simpa using h]
      exact getC_getL k r
theorem getL_put (L : List UInt8) (k : ByteArray) (v : Int) : ∀ (m : CM), getL L (putC k v m) = if L = k.toList then v else getL L m
  | [] => rfl
  | x :: r => by
    simp only [putC]
    by_cases h : k.toList = x.1.toList
    · rw [show (k.toList == x.1.toList) = true by rw [h]; exact beq_self_eq_true _]
      simp only [cond_true, getL, ← h]
      by_cases hL : L = k.toList
      · rw [if_pos hL, if_pos hL]
      · rw [if_neg hL, if_neg hL, if_neg hL]
    · rw [show (k.toList == x.1.toList) = false by simpa using h]
      simp only [cond_false, getL, getL_put L k v r]
      by_cases hx : L = x.1.toList
      · rw [if_pos hx]
        rw [if_neg (fun e => h (e.symm.trans hx)), if_pos hx]
      · rw [if_neg hx, if_neg hx]
def keysC (m : CM) : List (List UInt8) := m.map fun x => x.1.toList
theorem keys_put (k : ByteArray) (v : Int) : ∀ (m : CM), (keysC m).Nodup → (keysC (putC k v m)).Nodup ∧ ∀ L, L ∈ keysC (putC k v m) → L = k.toList ∨ L ∈ keysC m
  | [], _ => ⟨by simp [putC, keysC], fun L h => by simp [putC, keysC] at h; exact .inl h⟩
  | x :: r, h => by
    simp only [putC]
    have h2 := List.nodup_cons.1 (show (x.1.toList :: keysC r).Nodup from h)
    by_cases e : k.toList = x.1.toList
    · rw [show (k.toList == x.1.toList) = true by rw [e]; exact beq_self_eq_true _]
      simp only [cond_true]
      refine ⟨?_, fun L hL => ?_⟩
      · show (k.toList :: keysC r).Nodup
        rw [e]; exact h
      · rcases List.mem_cons.1 (show L ∈ k.toList :: keysC r from hL) with h3 | h3
        · exact .inl h3
        · exact .inr (List.mem_cons.2 (.inr h3))
    · rw [show (k.toList == x.1.toList) = false by simpa using e]
      obtain ⟨i1, i2⟩ := keys_put k v r h2.2
      simp only [cond_false]
      refine ⟨?_, fun L hL => ?_⟩
      · refine List.nodup_cons.2 ⟨fun hm => ?_, i1⟩
        rcases i2 _ hm with h3 | h3
        · exact e h3.symm
        · exact h2.1 h3
      · rcases List.mem_cons.1 (show L ∈ x.1.toList :: keysC (putC k v r) from hL) with h3 | h3
        · exact .inr (List.mem_cons.2 (.inl h3))
        · rcases i2 _ h3 with h4 | h4
          · exact .inl h4
          · exact .inr (List.mem_cons.2 (.inr h4))
theorem all_zero : ∀ (m : CM), (keysC m).Nodup → ((m.all fun x => x.2 == 0) = true ↔ ∀ L, getL L m = 0)
  | [], _ => by simp [getL]
  | x :: r, h => by
    have h2 := List.nodup_cons.1 (show (x.1.toList :: keysC r).Nodup from h)
    have ih := all_zero r h2.2
    simp only [List.all_cons, Bool.and_eq_true, beq_iff_eq, getL]
    constructor
    · rintro ⟨a, b⟩ L
      split
      · exact a
      · exact ih.1 b L
    · intro hall
      refine ⟨?_, ih.2 fun L => ?_⟩
      · have := hall x.1.toList
        rwa [if_pos rfl] at this
      · by_cases hm : L = x.1.toList
        · have none : ∀ (l : CM), L ∉ keysC l → getL L l = 0 := by
            intro l
            induction l with
            | nil => intro _; rfl
            | cons y l ihl =>
              intro hn
              simp only [getL]
              rw [if_neg (fun e => hn (by rw [e]; simp [keysC])), ihl (fun e => hn (List.mem_cons.2 (.inr e)))]
          exact none r (by rw [hm]; exact h2.1)
        · have := hall L
          rwa [if_neg hm] at this
def txt (r : List Val) : ByteArray := textS (r.map fun v => (v.K, v.N))
def tL (r : List Val) : List UInt8 := (txt r).toList
theorem pairs_row : ∀ (r : List Val), ROk r → pairsP (r.map Val.pv) = some (r.map fun v => (v.K, v.N))
  | [], _ => rfl
  | v :: r, h => by
    have hv := h v (by simp)
    have h1 : (inI v.K && inI v.N) = true := by
      unfold inI
      rw [decide_eq_true hv.1.1, decide_eq_true hv.1.2, decide_eq_true hv.2.1, decide_eq_true hv.2.2]; rfl
    show (bif inI v.K && inI v.N then (pairsP (r.map Val.pv)).bind fun l => some ((v.K, v.N) :: l) else none) = _
    rw [h1, pairs_row r (fun x hx => h x (by simp [hx]))]; rfl
theorem w_text (r : List Val) (h : ROk r) (hl : r.length ≤ 1000000) : wc W n_bag_text [rowp r] = some (.str (txt r)) := x_bag_text (r.map Val.pv) _ (pairs_row r h) (by rw [List.length_map]; exact hl)
def add1 (k : ByteArray) (d : Int) (m : CM) : CM := putC k ((getC k m).getD 0 + d) m
def foldS : List (List Val) → List (List Val) → CM → CM
  | x :: r, y :: s, m => foldS r s (add1 (txt y) (-1) (add1 (txt x) 1 m))
  | _, _, m => m
def bnd (m : CM) (B : Nat) : Prop := ∀ x ∈ m, -(B : Int) ≤ x.2 ∧ x.2 ≤ B
theorem getC_bnd (k : ByteArray) (B : Nat) : ∀ (m : CM), bnd m B → -(B : Int) ≤ (getC k m).getD 0 ∧ (getC k m).getD 0 ≤ B
  | [], _ => by simp [getC]
  | x :: r, h => by
    simp only [getC]
    cases k.toList == x.1.toList with
    | true => exact h x (by simp)
    | false => exact getC_bnd k B r (fun y hy => h y (by simp [hy]))
theorem putC_bnd (k : ByteArray) (v : Int) (B : Nat) (hv : -(B : Int) ≤ v ∧ v ≤ B) : ∀ (m : CM), bnd m B → bnd (putC k v m) B
  | [], _ => fun x hx => by simp [putC] at hx; subst hx; exact hv
  | x :: r, h => fun y hy => by
    simp only [putC] at hy
    cases he : k.toList == x.1.toList with
    | true =>
      rw [he] at hy
      rcases List.mem_cons.1 hy with rfl | hy
      · exact hv
      · exact h y (by simp [hy])
    | false =>
      rw [he] at hy
      rcases List.mem_cons.1 hy with rfl | hy
      · exact h _ (by simp)
      · exact putC_bnd k v B hv r (fun z hz => h z (by simp [hz])) y hy
theorem add1_bnd (k : ByteArray) (d : Int) (hd : -1 ≤ d ∧ d ≤ 1) (m : CM) (B : Nat) (h : bnd m B) : bnd (add1 k d m) (B + 1) := by
  have h1 := getC_bnd k B m h
  exact putC_bnd k _ (B + 1) (by omega) m (fun x hx => by have := h x hx; omega)
theorem same_loop (c d : List PV) (r s : List (List Val)) (e : r.length = s.length) (hr : r.length ≤ 1000000000) (h1 : ∀ x ∈ r, ROk x ∧ x.length ≤ 1000000) (h2 : ∀ x ∈ s, ROk x ∧ x.length ≤ 1000000) :
    ∀ (k i : Nat) (m : CM), i + k = r.length → bnd m (2 * i) → L_bag_Same_2 c (r.map rowp) d (s.map rowp) (r.length : Int) (i : Int) (mpC m) = some (.bool ((foldS (r.drop i) (s.drop i) m).all fun x => x.2 == 0))
  | 0, i, m, h, hb => by
    rw [L_bag_Same_2_eq, show i = r.length by omega]
    simp only [ge_len, cond_false, zeros_mp, Option.bind_some, List.drop_length, foldS]
  | k + 1, i, m, h, hb => by
    have hi : i < r.length := by omega
    have hi' : i < s.length := by omega
    obtain ⟨a1, a2⟩ := h1 r[i] (List.getElem_mem hi)
    obtain ⟨b1, b2⟩ := h2 s[i] (List.getElem_mem hi')
    have hb1 := add1_bnd (txt r[i]) 1 (by omega) m _ hb
    have hb2 := add1_bnd (txt s[i]) (-1) (by omega) _ _ hb1
    have g1 := getC_bnd (txt r[i]) _ m hb
    have g2 := getC_bnd (txt s[i]) _ _ hb1
    rw [L_bag_Same_2_eq, List.drop_eq_getElem_cons hi, List.drop_eq_getElem_cons hi', foldS]
    have o1 : ∀ (o : Option Int) (x : Int), -9223372036854775808 ≤ o.getD 0 + x → o.getD 0 + x ≤ 9223372036854775807 → intP .add ((o.map (PV.int .i64)).getD (.int .i64 0)) (.int .i64 x) = some (.int .i64 (o.getD 0 + x)) := fun o x q1 q2 => by
      cases o with
      | none => show some (PV.int .i64 (IntKind.wrap .i64 (0 + x))) = _; rw [wrap64 (by simpa using q1) (by simpa using q2)]; rfl
      | some v => show some (PV.int .i64 (IntKind.wrap .i64 (v + x))) = _; rw [wrap64 (by simpa using q1) (by simpa using q2)]; rfl
    have o2 : ∀ (o : Option Int) (x : Int), -9223372036854775808 ≤ o.getD 0 - x → o.getD 0 - x ≤ 9223372036854775807 → intP .sub ((o.map (PV.int .i64)).getD (.int .i64 0)) (.int .i64 x) = some (.int .i64 (o.getD 0 - x)) := fun o x q1 q2 => by
      cases o with
      | none => show some (PV.int .i64 (IntKind.wrap .i64 (0 - x))) = _; rw [wrap64 (by simpa using q1) (by simpa using q2)]; rfl
      | some v => show some (PV.int .i64 (IntKind.wrap .i64 (v - x))) = _; rw [wrap64 (by simpa using q1) (by simpa using q2)]; rfl
    simp only [lt_len hi, nat_le, cond_true, Int.toNat_natCast, List.getElem?_map, List.getElem?_eq_getElem hi, List.getElem?_eq_getElem hi', Option.map_some, Option.bind_some, c_rowp, rowp_fold, w_text _ a1 a2, w_text _ b1 b2, c_t_mk, mfind_mp, c_i64_mk]
    rw [o1 _ 1 (by omega) (by omega)]
    simp only [Option.bind_some, c_i64_mk, mput_mp, mfind_mp]
    have e1 : putC (txt r[i]) ((getC (txt r[i]) m).getD 0 + 1) m = add1 (txt r[i]) 1 m := rfl
    rw [e1, o2 _ 1 (by omega) (by omega)]
    simp only [Option.bind_some, c_i64_mk, mput_mp]
    have e2 : putC (txt s[i]) ((getC (txt s[i]) (add1 (txt r[i]) 1 m)).getD 0 - 1) (add1 (txt r[i]) 1 m) = add1 (txt s[i]) (-1) (add1 (txt r[i]) 1 m) := rfl
    rw [e2, wrap_succ (by omega)]
    have hb3 : bnd (add1 (txt s[i]) (-1) (add1 (txt r[i]) 1 m)) (2 * (i + 1)) := hb2
    exact same_loop c d r s e hr h1 h2 k (i + 1) _ (by omega) hb3
theorem w_EqualInt (a b : List Int) (ha : a.length ≤ 9223372036854775807) : wc W n_slices_Equal_int_int [intsp a, intsp b] = some (.bool (decide (a = b))) := by
  have h := e_slices_Equal_int_int (a.map intp) (b.map intp)
  rw [intsp_fold, intsp_fold] at h
  rw [h, List.length_map, List.length_map]
  by_cases e : a.length = b.length
  · rw [bne_f (by omega)]
    simp only [cond_false]
    refine loop_all2 (fun i => L_slices_Equal_int_int_1 (a.map intp) (b.map intp) a.length i) a b e (some (.bool false)) (some (.bool true)) (fun i hi hi' => ?_) ?_ |>.trans ?_
    · rw [L_slices_Equal_int_int_1_eq]
      simp only [lt_len hi, nat_le, cond_true, Int.toNat_natCast, List.getElem?_map, List.getElem?_eq_getElem hi, List.getElem?_eq_getElem hi', Option.map_some, Option.bind_some, c_intp]
      by_cases he : a[i] = b[i]
      · rw [bne_f he, decide_eq_true he, wrap64 (by omega) (by omega)]; rfl
      · rw [bne_t he, decide_eq_false he]; rfl
    · rw [L_slices_Equal_int_int_1_eq]; simp
    · cases decide (a = b) <;> rfl
  · rw [bne_t (by omega), decide_eq_false (fun h => e (by rw [h]))]; rfl
def sameB (c : List Int) (r : List (List Val)) (d : List Int) (s : List (List Val)) : Bool := decide (c = d) && decide (r.length = s.length) && (foldS r s []).all fun x => x.2 == 0
theorem w_Same (c : List Int) (r : List (List Val)) (d : List Int) (s : List (List Val)) (hc : c.length ≤ 9223372036854775807) (hr : r.length ≤ 1000000000) (hs : s.length ≤ 1000000000) (h1 : ∀ x ∈ r, ROk x ∧ x.length ≤ 1000000) (h2 : ∀ x ∈ s, ROk x ∧ x.length ≤ 1000000) :
    wc W n_bag_Same [bagp c r, bagp d s] = some (.bool (sameB c r d s)) := by
  have h := e_bag_Same (c.map intp) (r.map rowp) (d.map intp) (s.map rowp)
  rw [intsp_fold, intsp_fold, tabp_fold, tabp_fold, bagp_fold, bagp_fold, w_EqualInt c d hc] at h
  rw [h]
  unfold sameB
  simp only [Option.bind_some, c_b_mk, List.length_map]
  cases decide (c = d) with
  | false => rfl
  | true =>
    by_cases e : r.length = s.length
    · rw [bne_f (by omega), decide_eq_true e, J_bag_Same_1_eq]
      have := same_loop (c.map intp) (d.map intp) r s e hr h1 h2 r.length 0 [] (by omega) (fun x hx => by simp at hx)
      simp only [List.drop_zero] at this
      simp only [Bool.not_true, cond_false, List.length_map, Bool.true_and]
      exact this
    · rw [bne_t (by omega), decide_eq_false e]; rfl
def cnt (L : List UInt8) (r : List (List Val)) : Int := ((r.map tL).count L : Nat)
theorem getL_add (L : List UInt8) (k : ByteArray) (d : Int) (m : CM) : getL L (add1 k d m) = getL L m + if L = k.toList then d else 0 := by
  unfold add1
  rw [getL_put, getC_getL]
  split
  · rename_i h; rw [h]
  · omega
theorem fold_spec (L : List UInt8) : ∀ (r s : List (List Val)) (m : CM), r.length = s.length → (keysC m).Nodup → (keysC (foldS r s m)).Nodup ∧ getL L (foldS r s m) = getL L m + cnt L r - cnt L s
  | [], [], m, _, h => ⟨h, by simp [foldS, cnt]⟩
  | [], _ :: _, m, e, h => by simp at e
  | _ :: _, [], m, e, h => by simp at e
  | x :: r, y :: s, m, e, h => by
    have k1 := (keys_put (txt x) ((getC (txt x) m).getD 0 + 1) m h).1
    have k2 := (keys_put (txt y) ((getC (txt y) (add1 (txt x) 1 m)).getD 0 + -1) (add1 (txt x) 1 m) k1).1
    obtain ⟨i1, i2⟩ := fold_spec L r s (add1 (txt y) (-1) (add1 (txt x) 1 m)) (by simpa using e) k2
    refine ⟨i1, ?_⟩
    show getL L (foldS r s (add1 (txt y) (-1) (add1 (txt x) 1 m))) = _
    rw [i2, getL_add, getL_add]
    have c1 : cnt L (x :: r) = cnt L r + if L = (txt x).toList then 1 else 0 := by
      unfold cnt
      rw [List.map_cons, List.count_cons]
      by_cases hx : L = (txt x).toList
      · rw [if_pos hx, show (tL x == L) = true by rw [hx]; exact beq_self_eq_true _]; simp
      · rw [if_neg hx, show (tL x == L) = false by simpa using fun e => hx e.symm]; simp
    have c2 : cnt L (y :: s) = cnt L s + if L = (txt y).toList then 1 else 0 := by
      unfold cnt
      rw [List.map_cons, List.count_cons]
      by_cases hx : L = (txt y).toList
      · rw [if_pos hx, show (tL y == L) = true by rw [hx]; exact beq_self_eq_true _]; simp
      · rw [if_neg hx, show (tL y == L) = false by simpa using fun e => hx e.symm]; simp
    rw [c1, c2]
    split <;> split <;> omega
theorem same_iff (r s : List (List Val)) (e : r.length = s.length) : ((foldS r s []).all fun x => x.2 == 0) = true ↔ ∀ L, cnt L r = cnt L s := by
  rw [all_zero _ (fold_spec [] r s [] e (by simp [keysC])).1]
  constructor
  · intro h L
    have := (fold_spec L r s [] e (by simp [keysC])).2
    rw [h L] at this
    simp only [getL] at this
    omega
  · intro h L
    rw [(fold_spec L r s [] e (by simp [keysC])).2, h L]
    simp only [getL]; omega
theorem cnt_perm {r s : List (List Val)} (h : r.Perm s) (L : List UInt8) : cnt L r = cnt L s := by
  unfold cnt
  rw [(h.map tL).count_eq]
theorem same_perm {c : List Int} {r s : List (List Val)} (h : r.Perm s) : sameB c r c s = true := by
  unfold sameB
  rw [decide_eq_true rfl, decide_eq_true h.length_eq, (same_iff r s h.length_eq).2 (cnt_perm h)]; rfl
end Go.Cf

namespace Go.Cf
open Go Go.Ab
set_option linter.unusedVariables false
set_option linter.unusedSimpArgs false
theorem rowsG_perm {c : List Int} {r s : List (List Val)} (h : r.Perm s) (by_ : Int) (sums : List Int) : rowsG c r by_ sums = rowsG c s by_ sums := by
  unfold rowsG
  rw [keysB_perm h]
  refine List.map_congr_left fun k hk => ?_
  have hp := h.filter (hasK (idxI c fun x => by_ == x) k)
  unfold rowG
  rw [hp.length_eq]
  refine congrArg _ (congrArg _ (List.map_congr_left fun s hs => ?_))
  unfold colG
  exact sumV_perm (hp.map _)
theorem groupB_perm {c : List Int} {r s : List (List Val)} (h : r.Perm s) (by_ : Int) (sums : List Int) : groupB c r by_ sums = groupB c s by_ sums := by
  unfold groupB
  rw [mayB_perm h, rowsG_perm h]
def finB (by_ : Int) (sums out c : List Int) (r : List (List Val)) : Option (List Int × List (List Val)) := bif by_ != -1 then groupB c r by_ sums else pickB c r out
def queryp (occ : List Int) (p : List PV) (by_ : Int) (sums out : List Int) (ord : Int) : PV := .agg [intsp occ, .slice 6 p, .int .i64 by_, intsp sums, intsp out, .int .i64 ord]
@[simp] theorem query_fold (occ : List Int) (p : List PV) (by_ : Int) (sums out : List Int) (ord : Int) : PV.agg [intsp occ, .slice 6 p, .int .i64 by_, intsp sums, intsp out, .int .i64 ord] = queryp occ p by_ sums out ord := rfl
theorem bagR_0 (x : Option (List Int × List (List Val))) : ∃ c r b, bagR x = .tup [bagp c r, .bool b] := by
  cases x with
  | none => exact ⟨_, _, _, rfl⟩
  | some b => exact ⟨_, _, _, rfl⟩
theorem w_Finish (occ : List Int) (p : List PV) (by_ : Int) (sums out : List Int) (ord : Int) (c : List Int) (r : List (List Val)) (hc : c.length ≤ 9223372036854775807) (hr : r.length ≤ 1000000000) (hl : ∀ x ∈ r, ROk x ∧ x.length ≤ 9223372036854775807) (ho : out.length ≤ 9223372036854775807) :
    wc W n_means_Finish [queryp occ p by_ sums out ord, bagp c r] = some (bagR (finB by_ sums out c r)) := by
  have h := e_means_Finish (occ.map intp) p by_ (sums.map intp) (out.map intp) ord (c.map intp) (r.map rowp)
  rw [intsp_fold, intsp_fold, intsp_fold, query_fold, intsp_fold, tabp_fold, bagp_fold] at h
  have h1 := w_Group c r by_ sums hc hr (fun x hx => (hl x hx).2) (fun x hx => (hl x hx).1)
  have h2 := w_Pick c r out hc (by omega) (fun x hx => (hl x hx).2) ho
  rw [h]
  unfold finB
  cases by_ != -1 with
  | true =>
    obtain ⟨d, s, b, e⟩ := bagR_0 (groupB c r by_ sums)
    simp only [cond_true, h1, e, Option.bind_some, asTup_mk, List.getElem?_cons_zero, List.getElem?_cons_succ, c_bagp, c_b_mk, intsp_fold, tabp_fold, bagp_fold]
  | false =>
    obtain ⟨d, s, b, e⟩ := bagR_0 (pickB c r out)
    simp only [cond_false, h2, e, Option.bind_some, asTup_mk, List.getElem?_cons_zero, List.getElem?_cons_succ, c_bagp, c_b_mk, intsp_fold, tabp_fold, bagp_fold]
theorem vok (k : Int) (h : -5 ≤ k ∧ k ≤ 5) : VOk ⟨k, 0⟩ := ⟨⟨by simp only; omega, by simp only; omega⟩, ⟨by simp only; omega, by simp only; omega⟩⟩
theorem keyR_ok {x : List Val} (h : ROk x) (at_ : Int) : VOk ⟨(keyR at_ x).1, (keyR at_ x).2⟩ := by
  unfold keyR
  cases decide (at_ < 0) with
  | true => exact vok 0 (by omega)
  | false =>
    simp only [cond_false]
    cases e : x[at_.toNat]? with
    | none => exact vok 0 (by omega)
    | some v =>
      simp only
      cases mayV v with
      | true => exact h v (List.mem_of_getElem? e)
      | false => exact vok 2 (by omega)
theorem vok0 (n : Int) (h : I64 n) : VOk ⟨0, n⟩ := ⟨⟨by simp only; omega, by simp only; omega⟩, h⟩
theorem sumV_ok (l : List Val) : VOk (sumV l) := by
  unfold sumV
  cases l.any (fun v => (fineV v).K == 2) with
  | true => exact vok 2 (by omega)
  | false =>
    simp only [cond_false]
    split
    · exact vok 1 (by omega)
    · split
      · rename_i h; exact vok0 _ h
      · exact vok 2 (by omega)
theorem rowsG_ok {c : List Int} {r : List (List Val)} (hr : ∀ x ∈ r, ROk x) (hl : r.length ≤ 1000000000) (by_ : Int) (sums : List Int) : ∀ x ∈ rowsG c r by_ sums, ROk x ∧ x.length = 2 + sums.length := by
  intro x hx
  unfold rowsG at hx
  obtain ⟨k, hk, rfl⟩ := List.mem_map.1 hx
  obtain ⟨y, hy, rfl⟩ := (keysB_mem _ _ _).1 ((sortKeys_perm _).mem_iff.1 hk)
  refine ⟨fun v hv => ?_, by simp [rowG]; omega⟩
  unfold rowG at hv
  rcases List.mem_cons.1 hv with rfl | hv
  · exact keyR_ok (hr y hy) _
  · rcases List.mem_cons.1 hv with rfl | hv
    · have := List.length_filter_le (hasK (idxI c fun x => by_ == x) (keyR (idxI c fun x => by_ == x) y)) r
      exact vok0 _ ⟨by omega, by omega⟩
    · obtain ⟨s, hs, rfl⟩ := List.mem_map.1 hv
      exact sumV_ok _
theorem rowsG_len (c : List Int) (r : List (List Val)) (by_ : Int) (sums : List Int) : (rowsG c r by_ sums).length ≤ r.length := by
  have hkl : (keysB (idxI c fun x => by_ == x) r).length ≤ r.length := by have := keysG_len (idxI c fun x => by_ == x) r [] []; simpa [keysB] using this
  unfold rowsG
  rw [List.length_map, sortKeys_len]; exact hkl
theorem pickR_okl {c : List Int} {x : List Val} (h : ROk x) (cols : List Int) : ROk (pickR c cols x) ∧ (pickR c cols x).length = cols.length := by
  refine ⟨fun v hv => ?_, by simp [pickR]⟩
  unfold pickR at hv
  obtain ⟨s, hs, rfl⟩ := List.mem_map.1 hv
  exact lookR_ok c h s
theorem finB_perm {by_ : Int} {sums out c : List Int} {r s : List (List Val)} (h : r.Perm s) :
    (finB by_ sums out c r = none ∧ finB by_ sums out c s = none) ∨ (∃ d x y, finB by_ sums out c r = some (d, x) ∧ finB by_ sums out c s = some (d, y) ∧ x.Perm y) := by
  unfold finB
  cases by_ != -1 with
  | true =>
    simp only [cond_true]
    rw [groupB_perm h]
    cases e : groupB c s by_ sums with
    | none => exact .inl ⟨rfl, rfl⟩
    | some z => exact .inr ⟨z.1, z.2, z.2, rfl, rfl, List.Perm.refl _⟩
  | false =>
    simp only [cond_false]
    unfold pickB
    rw [mayB_perm h]
    cases mayB c s && mayB out [] && out.all (inC c) with
    | false => exact .inl ⟨rfl, rfl⟩
    | true => exact .inr ⟨out, _, _, rfl, rfl, h.map _⟩
theorem finB_ok {by_ : Int} {sums out c d : List Int} {r x : List (List Val)} (hr : ∀ x ∈ r, ROk x) (hl : r.length ≤ 1000000000) (h : finB by_ sums out c r = some (d, x)) :
    (∀ y ∈ x, ROk y ∧ y.length = d.length) ∧ x.length ≤ r.length ∧ (by_ = -1 → d = out ∧ x.length = r.length) ∧ (by_ ≠ -1 → d = colsG by_ sums.length ∧ sums.length ≤ 4) := by
  unfold finB at h
  by_cases hb : by_ = -1
  · rw [bne_f hb, cond_false] at h
    unfold pickB at h
    cases e : mayB c r && mayB out [] && out.all (inC c) with
    | false => rw [e] at h; cases h
    | true =>
      rw [e] at h
      simp only [cond_true, Option.some.injEq, Prod.mk.injEq] at h
      obtain ⟨rfl, rfl⟩ := h
      refine ⟨fun y hy => ?_, by simp, fun _ => ⟨rfl, by simp⟩, fun q => absurd hb q⟩
      obtain ⟨z, hz, rfl⟩ := List.mem_map.1 hy
      exact pickR_okl (hr z hz) _
  · rw [bne_t hb, cond_true] at h
    unfold groupB at h
    cases e : mayB c r && inC c by_ && decide (sums.length ≤ 4) && sums.all (inC c) with
    | false => rw [e] at h; cases h
    | true =>
      rw [e] at h
      simp only [cond_true, Option.some.injEq, Prod.mk.injEq] at h
      obtain ⟨rfl, rfl⟩ := h
      simp only [Bool.and_eq_true, decide_eq_true_eq] at e
      refine ⟨fun y hy => ?_, rowsG_len _ _ _ _, fun q => absurd q hb, fun _ => ⟨rfl, e.1.2⟩⟩
      obtain ⟨h1, h2⟩ := rowsG_ok hr hl by_ sums y hy
      exact ⟨h1, by rw [h2]; simp [colsG]; omega⟩
theorem w_Far3 (c : List Int) (r : List (List Val)) (m : Nat) (hr : r.length ≤ 9223372036854775807) : wc W n_roadbooklaw03_Far [bagp c r, .int .i64 (m : Int)] = some (.int .i64 (bif fewB c r m then 0 else 1)) := by
  have h := e_roadbooklaw03_Far (c.map intp) (r.map rowp) m
  rw [intsp_fold, tabp_fold, bagp_fold] at h
  rw [h, w_few c r m hr]
  simp only [Option.bind_some, c_b_mk]
  cases fewB c r m <;> rfl
end Go.Cf

namespace Go.Cf
open Go Go.Ab
set_option linter.unusedVariables false
structure QIn where
  (occ : List Int) (p : List PV) (by_ : Int) (sums out : List Int) (ord : Int)
def QIn.pv (q : QIn) : PV := queryp q.occ q.p q.by_ q.sums q.out q.ord
def Ints0 (l : List Int) : Prop := l.length ≤ 9223372036854775807 ∧ ∀ n ∈ l, I64 n
structure QIn.Ok (q : QIn) : Prop where
  occ : Ints0 q.occ
  p : q.p.length ≤ 9223372036854775807 ∧ ∀ x ∈ q.p, Typed cfg t_api_Expr x
  by_ : I64 q.by_
  sums : Ints0 q.sums
  out : Ints0 q.out
  ord : I64 q.ord
theorem ty_api_Query {p : PV} (h : Typed cfg t_api_Query p) : ∃ q : QIn, p = q.pv ∧ q.Ok := by
  obtain ⟨ps, rfl, hl⟩ := h.struct_inv (fs := [(t_s_int, 0), (t_s_api_Expr, 1), (t_int, 2), (t_s_int, 3), (t_s_int, 4), (t_int, 5)]) (by kernel_rfl)
  obtain ⟨x, qs, rfl, hx, hl⟩ := typedL_cons hl
  obtain ⟨y, qs, rfl, hy, hl⟩ := typedL_cons hl
  obtain ⟨z, qs, rfl, hz, hl⟩ := typedL_cons hl
  obtain ⟨u, qs, rfl, hu, hl⟩ := typedL_cons hl
  obtain ⟨v, qs, rfl, hv, hl⟩ := typedL_cons hl
  obtain ⟨w, rfl, hw⟩ := typedL1 hl
  obtain ⟨a, rfl, ha⟩ := ty_s_int hx
  obtain ⟨ps, rfl, hpl, hp⟩ := hy.slice_inv (e := t_api_Expr) (by kernel_rfl)
  obtain ⟨b, rfl, hb⟩ := ty_int hz
  obtain ⟨s, rfl, hs⟩ := ty_s_int hu
  obtain ⟨o, rfl, ho⟩ := ty_s_int hv
  obtain ⟨d, rfl, hd⟩ := ty_int hw
  exact ⟨⟨a, ps, b, s, o, d⟩, rfl, ha, ⟨len63 hpl, hp⟩, hb, hs, ho, hd⟩
end Go.Cf

namespace Go.Cf
open Go Go.Ab
set_option linter.unusedVariables false
set_option linter.unusedSimpArgs false
theorem law_MeansFinish (q : QIn) (a : List Int × List (List Val)) (col : Int) (hq : q.Ok) (ha : Bag0 a) (hcol : I64 col) :
    wc W n_roadbooklaw07_MeansFinish [q.pv, bagp a.1 a.2, .int .i64 col] = some (.bool true) := by
  obtain ⟨c, r⟩ := a
  obtain ⟨occ, p, by_, sums, out, ord⟩ := q
  have h := e_roadbooklaw07_MeansFinish (occ.map intp) p by_ (sums.map intp) (out.map intp) ord (c.map intp) (r.map rowp) col
  rw [intsp_fold, intsp_fold, intsp_fold, query_fold, intsp_fold, tabp_fold, bagp_fold] at h
  have k1 := w_Far3 c r 60 ha.2.1
  simp only [Int.cast_ofNat_Int] at k1
  show wc W n_roadbooklaw07_MeansFinish [queryp occ p by_ sums out ord, bagp c r, .int .i64 col] = _
  rw [h, w_awake7, k1]
  simp only [Option.bind_some, c_b_mk, c_i64_mk, Bool.not_true, cond_false, List.length_map]
  cases hx : fewB c r 60 with
  | false => rfl
  | true =>
  obtain ⟨x1, x2, x3⟩ := fewB_of hx
  simp only [cond_true]
  rw [bne_f rfl]
  simp only [cond_false]
  rcases Nat.lt_or_ge 20 out.length with hl | hl
  · rw [decide_eq_true (show ((out.length : Nat) : Int) > 20 by omega)]; rfl
  rw [decide_eq_false (show ¬ ((out.length : Nat) : Int) > 20 by omega)]
  simp only [cond_false]
  rcases Nat.lt_or_ge 20 sums.length with hl2 | hl2
  · rw [decide_eq_true (show ((sums.length : Nat) : Int) > 20 by omega)]; rfl
  rw [decide_eq_false (show ¬ ((sums.length : Nat) : Int) > 20 by omega)]
  simp only [cond_false]
  have rr : ∀ x ∈ r, ROk x ∧ x.length ≤ 20 := fun x hx => ⟨(ha.2.2 x hx).2, x3 x hx⟩
  have hp : r.Perm (sortB c r col) := ((sortR_spec (idxI c (fun x => col == x)) r).2.perm).symm
  have ss : ∀ x ∈ sortB c r col, ROk x ∧ x.length ≤ 20 := fun x hx => rr x (hp.mem_iff.2 hx)
  have hsl : (sortB c r col).length = r.length := hp.length_eq.symm
  have w1 := w_Finish occ p by_ sums out ord c r (by omega) (by omega) (fun x hx => ⟨(rr x hx).1, by have := (rr x hx).2; omega⟩) (by omega)
  have w2 := w_Sort c r col (by omega) (by omega) (fun x hx => by have := (rr x hx).2; omega)
  have w3 := w_Finish occ p by_ sums out ord c (sortB c r col) (by omega) (by omega) (fun x hx => ⟨(ss x hx).1, by have := (ss x hx).2; omega⟩) (by omega)
  rw [J_roadbooklaw07_MeansFinish_1_eq]
  simp only [intsp_fold, query_fold, tabp_fold, bagp_fold, w1, w2, w3, Option.bind_some, c_bagp]
  rcases finB_perm (by_ := by_) (sums := sums) (out := out) (c := c) hp with ⟨e1, e2⟩ | ⟨d, x, y, e1, e2, hxy⟩
  · simp only [e1, e2, bagR, asTup_mk, List.getElem?_cons_zero, List.getElem?_cons_succ, Option.bind_some, c_bagp, c_b_mk, beq_self_eq_true, Bool.not_true, Bool.not_false, cond_false, J_roadbooklaw07_MeansFinish_2_eq, cond_true, List.map_nil, List.length_nil]
    rfl
  · have o1 := finB_ok (fun z hz => (rr z hz).1) (by omega) e1
    have o2 := finB_ok (fun z hz => (ss z hz).1) (by omega) e2
    have hd : d.length ≤ 20 := by
      by_cases hb : by_ = -1
      · rw [(o1.2.2.1 hb).1]; exact hl
      · have := o1.2.2.2 hb; rw [this.1]; simp [colsG]; omega
    have w4 := w_Same d x d y (by omega) (by have := o1.2.1; omega) (by have := o2.2.1; omega) (fun z hz => ⟨(o1.1 z hz).1, by have := (o1.1 z hz).2; omega⟩) (fun z hz => ⟨(o2.1 z hz).1, by have := (o2.1 z hz).2; omega⟩)
    rw [same_perm hxy] at w4
    simp only [e1, e2, bagR, asTup_mk, List.getElem?_cons_zero, List.getElem?_cons_succ, Option.bind_some, c_bagp, c_b_mk, beq_self_eq_true, Bool.not_true, Bool.not_false, cond_false, J_roadbooklaw07_MeansFinish_2_eq, cond_true, List.length_map, intsp_fold, tabp_fold, bagp_fold, w4]
    by_cases hb : by_ = -1
    · obtain ⟨rfl, hl3⟩ := o1.2.2.1 hb
      rw [hl3, hb]
      simp only [beq_self_eq_true, cond_true]
    · obtain ⟨rfl, hl3⟩ := o1.2.2.2 hb
      have hlc : (colsG by_ sums.length).length = 2 + sums.length := by simp [colsG]; omega
      have hwr : IntKind.wrap .i64 ((2 : Int) + (sums.length : Int)) = ((2 + sums.length : Nat) : Int) := by rw [wrap64 (by omega) (by omega)]; omega
      have hz : ((colsG by_ sums.length).map intp)[0]? = some (intp by_) := rfl
      rw [beq_f hb, cond_false, decide_eq_true (show ((x.length : Nat) : Int) ≤ ((r.length : Nat) : Int) by have := o1.2.1; omega), hlc, hwr, hz]
      simp only [beq_self_eq_true, cond_true, Option.bind_some, c_intp]
end Go.Cf
