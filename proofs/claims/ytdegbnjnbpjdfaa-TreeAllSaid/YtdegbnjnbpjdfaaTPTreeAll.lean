/- TreeAll over plain data: all trees of a set are of it, may be, are no two the same, and any tree that may be, of it, is one of them. Conditions: none. -/
import Derived.Test.YtdegbnjnbpjdfaaTSTreeAll
import Derived.Test.YtdegbnjnbpjdfaaTAll
import Derived.Test.YtdegbnjnbpjdfaaTAwake
namespace Go.Proofs.Ytdegbnjnbpjdfaa.T
open Go.RowKit Go.Proofs.YtdegbnjnbpjdfaaW.PrintWords Go.Proofs.YtdegbnjnbpjdfaaW.PrintLast Go.Proofs.YtdegbnjnbpjdfaaW.PrintMore
set_option linter.unusedVariables false
set_option linter.unusedSimpArgs false
theorem wf_of_all {t : Tr} (h : wf_S39 t) : Wf t := by
  induction h with
  | mk x h0 h1 g1 ih => exact .mk x (wf_i64 h0) h1 ih
theorem all_ne (n : Nat) (hn : n < 16) (i j : Nat) (hi : i < (allL n).length) (hj : j < (allL n).length) (hne : i ≠ j) : tx 4 (allL n)[i] ≠ tx 4 (allL n)[j] := by
  intro h
  have hd := all_apart n hn
  have li : i < (txs n).length := by simpa [txs] using hi
  have lj : j < (txs n).length := by simpa [txs] using hj
  have e : (txs n)[i] = (txs n)[j] := by simpa [txs] using h
  have hd := List.pairwise_iff_getElem.1 hd
  rcases Nat.lt_or_gt_of_ne hne with hij | hij
  · exact hd i j li lj hij e
  · exact hd j i lj li hij e.symm
theorem many_pc (n : Nat) (hn : n < 16) : wrap64 ((wrap64 ((wrap64 ((Int.tmod (n : Int) 2) + (Int.tmod (wrap64 (Int.tdiv (n : Int) 2)) 2))) + (Int.tmod (wrap64 (Int.tdiv (n : Int) 4)) 2))) + (Int.tmod (wrap64 (Int.tdiv (n : Int) 8)) 2)) = (pc n : Int) := by
  have h : ∀ a : Fin 16, wrap64 ((wrap64 ((wrap64 ((Int.tmod (a.val : Int) 2) + (Int.tmod (wrap64 (Int.tdiv (a.val : Int) 2)) 2))) + (Int.tmod (wrap64 (Int.tdiv (a.val : Int) 4)) 2))) + (Int.tmod (wrap64 (Int.tdiv (a.val : Int) 8)) 2)) = (pc a.val : Int) := by decide +kernel
  exact h ⟨n, hn⟩
theorem len_le (n : Nat) (hn : n < 16) : (allL n).length ≤ 120 := by
  have h : ∀ a : Fin 16, [0, 1, 2, 12, 120].getD (pc a.val) 0 ≤ 120 := by decide +kernel
  rw [all_len n hn]; exact h ⟨n, hn⟩
theorem ta_end (n : Nat) (h1 : 1 ≤ n) (hn : n < 16) (t : Tr) (f : Bool) (s : ByteArray) (hf : f = true ↔ t ∈ allL n) (hs : (allL n).length ≤ s.size) (i : Nat) (hi : (allL n).length ≤ i) : Ev (fun k => roadbooklaw06_TreeAll.l1 k (n : Int) (allL n) f s (i : Int) t.f0 t.f1) true := by
  refine Ev.succ' ?_
  simp only [roadbooklaw06_TreeAll.l1]
  have c0 : ¬ ((i : Int) < ((allL n).length : Int)) := by omega
  have hp := pc_pos n hn h1
  have c1 : (0 : Int) ≤ (pc n : Int) := by omega
  have c2 : (pc n : Int) < (([0, 1, 2, 12, 120] : List Int).length : Int) := by simp; omega
  have c3 : ((allL n).length : Int) = rd [0, 1, 2, 12, 120] (pc n : Int) := by
    rw [all_len n hn]
    have h : ∀ a : Fin 16, ((([0, 1, 2, 12, 120] : List Nat).getD (pc a.val) 0 : Nat) : Int) = rd [0, 1, 2, 12, 120] (pc a.val : Int) := by decide +kernel
    exact h ⟨n, hn⟩
  simp only [c0, if_false, Option.bind_some, many_pc n hn, c1, c2, if_true, ← c3]
  refine Ev.bind (g := fun k => tree_Set.f k t.f0 t.f1) (a := sv t) (Set_ev t) ?_
  have c4 : (f == (sv t == (n : Int))) = true := by
    rw [beq_iff_eq, Bool.eq_iff_iff, hf, beq_iff_eq]
    exact all_iff n h1 hn t
  have c5 : decide ((s.size : Int) ≥ ((allL n).length : Int)) = true := decide_eq_true (by omega)
  simp only [c4, if_true, c5]
  exact Ev.const true
theorem ta_l2 (n : Nat) (hn : n < 16) (t : Tr) (f : Bool) (s : ByteArray) (i : Nat) (hi : i < (allL n).length) (hnext : Ev (fun k => roadbooklaw06_TreeAll.l1 k (n : Int) (allL n) f s ((i + 1 : Nat) : Int) t.f0 t.f1) true) : ∀ (m j : Nat), i - j ≤ m → Ev (fun k => roadbooklaw06_TreeAll.l2 k (n : Int) (allL n) f s (i : Int) (j : Int) t.f0 t.f1) true := by
  have hl := len_le n hn
  have fin : ∀ j : Nat, i ≤ j → Ev (fun k => roadbooklaw06_TreeAll.l2 k (n : Int) (allL n) f s (i : Int) (j : Int) t.f0 t.f1) true := by
    intro j hj
    refine Ev.succ' ?_
    simp only [roadbooklaw06_TreeAll.l2]
    have c0 : ¬ ((j : Int) < (i : Int)) := by omega
    simp only [c0, if_false]
    rw [wrap_id (by omega) (by omega)]
    exact hnext
  intro m
  induction m with
  | zero => intro j hj; exact fin j (by omega)
  | succ m ih =>
    intro j hj
    by_cases hji : j < i
    · refine Ev.succ' ?_
      simp only [roadbooklaw06_TreeAll.l2]
      have c0 : (j : Int) < (i : Int) := by omega
      have c1 : (0 : Int) ≤ (i : Int) := by omega
      have c2 : (i : Int) < ((allL n).length : Int) := by omega
      have c3 : (0 : Int) ≤ (j : Int) := by omega
      have c4 : (j : Int) < ((allL n).length : Int) := by omega
      have hj' : j < (allL n).length := by omega
      obtain ⟨r, hr, er⟩ := same_ev (allL n)[i] (allL n)[j]
      simp only [c0, c1, c2, c3, c4, if_true, rd_nat _ _ hi, rd_nat _ _ hj']
      refine Ev.bind hr ?_
      have : r = false := by
        rw [← Bool.not_eq_true, er]
        intro e
        exact all_ne n hn i j hi hj' (by omega) (by rw [e])
      simp only [this, Bool.false_eq_true, if_false]
      have := ih (j + 1) (by omega)
      rw [wrap_id (by omega) (by omega)]
      exact this
    · exact fin j (by omega)
theorem ta_l1 (n : Nat) (h1 : 1 ≤ n) (hn : n < 16) (t : Tr) (f : Bool) (s : ByteArray) (hf : f = true ↔ t ∈ allL n) (hs : (allL n).length ≤ s.size) : ∀ (m i : Nat), (allL n).length - i ≤ m → Ev (fun k => roadbooklaw06_TreeAll.l1 k (n : Int) (allL n) f s (i : Int) t.f0 t.f1) true := by
  intro m
  induction m with
  | zero => intro i hi; exact ta_end n h1 hn t f s hf hs i (by omega)
  | succ m ih =>
    intro i hm
    by_cases hi : i < (allL n).length
    · refine Ev.succ' ?_
      simp only [roadbooklaw06_TreeAll.l1]
      have c0 : (i : Int) < ((allL n).length : Int) := by omega
      simp only [c0, if_true]
      exact ta_l2 n hn t f s i hi (ih (i + 1) (by omega)) i 0 (by omega)
    · exact ta_end n h1 hn t f s hf hs i (by omega)
theorem ta_l0 (n : Nat) (h1 : 1 ≤ n) (hn : n < 16) (t : Tr) : ∀ (m i : Nat) (f : Bool) (s : ByteArray), (allL n).length - i ≤ m → i ≤ (allL n).length → (f = true ↔ t ∈ (allL n).take i) → i ≤ s.size → s.size ≤ 1000 * i → Ev (fun k => roadbooklaw06_TreeAll.l0 k (n : Int) (allL n) f s (i : Int) t.f0 t.f1) true := by
  have hl := len_le n hn
  have fin : ∀ (i : Nat) (f : Bool) (s : ByteArray), (allL n).length ≤ i → i ≤ (allL n).length → (f = true ↔ t ∈ (allL n).take i) → i ≤ s.size → Ev (fun k => roadbooklaw06_TreeAll.l0 k (n : Int) (allL n) f s (i : Int) t.f0 t.f1) true := by
    intro i f s hi hi' hf hs
    refine Ev.succ' ?_
    simp only [roadbooklaw06_TreeAll.l0]
    have c0 : ¬ ((i : Int) < ((allL n).length : Int)) := by omega
    simp only [c0, if_false]
    rw [List.take_of_length_le hi] at hf
    exact ta_l1 n h1 hn t f s hf (by omega) (allL n).length 0 (by omega)
  intro m
  induction m with
  | zero => intro i f s hm hi hf hs _; exact fin i f s (by omega) hi hf hs
  | succ m ih =>
    intro i f s hm hi hf hs hs2
    by_cases hlt : i < (allL n).length
    · have hg := all_good n hn _ (List.getElem_mem hlt)
      have hgv : (setV 4 (allL n)[i]).2 = true := by rw [hg]
      have hsv : sv (allL n)[i] = (n : Int) := by unfold sv; rw [hg]; rfl
      obtain ⟨u, eu, hu⟩ := Text_ev (allL n)[i] hgv
      have hul := tx_len 4 (allL n)[i] hgv
      have husz : u.size ≤ 256 := by rw [size_data, eu]; exact hul.2
      obtain ⟨r, hr, er⟩ := same_ev (allL n)[i] t
      have next : ∀ g : Bool, (g = true ↔ t ∈ (allL n).take (i + 1)) → Ev (fun k => roadbooklaw06_TreeAll.l0 k (n : Int) (allL n) g ((s ++ u) ++ (⟨#[32]⟩ : ByteArray)) (wrap64 ((i : Int) + 1)) t.f0 t.f1) true := by
        intro g hg'
        rw [wrap_id (by omega) (by omega)]
        have hz : ((s ++ u) ++ (⟨#[32]⟩ : ByteArray)).size = s.size + u.size + 1 := by rw [ByteArray.size_append, ByteArray.size_append]; rfl
        exact ih (i + 1) g _ (by omega) (by omega) hg' (by omega) (by omega)
      have j3 : Ev (fun k => roadbooklaw06_TreeAll.j3 k (n : Int) (allL n) f s (i : Int) false t.f0 t.f1) true := by
        refine Ev.succ' ?_
        simp only [roadbooklaw06_TreeAll.j3, Bool.false_eq_true, if_false]
        have c1 : (0 : Int) ≤ (i : Int) := by omega
        have c2 : (i : Int) < ((allL n).length : Int) := by omega
        simp only [c1, c2, if_true, rd_nat _ _ hlt]
        refine Ev.bind hu ?_
        have y1 : s.size + u.size ≤ 9223372036854775807 := by omega
        have y2 : (s ++ u).size + 1 ≤ 9223372036854775807 := by rw [ByteArray.size_append]; omega
        simp only [y1, y2, if_true]
        have tk : ∀ x, x ∈ (allL n).take (i + 1) ↔ x ∈ (allL n).take i ∨ x = (allL n)[i] := by
          intro x
          rw [List.take_succ_eq_append_getElem hlt, List.mem_append, List.mem_singleton]
        cases f with
        | true =>
          simp only [if_true]
          exact next true ⟨fun _ => (tk t).2 (.inl (hf.1 rfl)), fun _ => rfl⟩
        | false =>
          simp only [Bool.false_eq_true, if_false]
          refine Ev.bind hr ?_
          refine next r ⟨fun h => (tk t).2 (.inr (er.1 h).symm), fun h => ?_⟩
          rcases (tk t).1 h with h | h
          · exact absurd (hf.2 h) (by simp)
          · exact er.2 h.symm
      have j2 : Ev (fun k => roadbooklaw06_TreeAll.j2 k (n : Int) (allL n) f s (i : Int) false t.f0 t.f1) true := by
        refine Ev.succ' ?_
        simp only [roadbooklaw06_TreeAll.j2, Bool.false_eq_true, if_false]
        have c1 : (0 : Int) ≤ (i : Int) := by omega
        have c2 : (i : Int) < ((allL n).length : Int) := by omega
        by_cases hi0 : (i : Int) > 0
        · have hw : wrap64 ((i : Int) - 1) = ((i - 1 : Nat) : Int) := by rw [wrap_id (by omega) (by omega)]; omega
          have hlt' : i - 1 < (allL n).length := by omega
          have c3 : (0 : Int) ≤ ((i - 1 : Nat) : Int) := by omega
          have c4 : ((i - 1 : Nat) : Int) < ((allL n).length : Int) := by omega
          have hg2 := all_good n hn _ (List.getElem_mem hlt')
          obtain ⟨v, ev, hv⟩ := Text_ev (allL n)[i - 1] (by rw [hg2])
          simp only [hi0, c1, c2, if_true, rd_nat _ _ hlt]
          refine Ev.bind hu ?_
          simp only [hw, c3, c4, if_true, rd_nat _ _ hlt']
          refine Ev.bind hv ?_
          have hne : (u.toList == v.toList) = false := by
            rw [beq_eq_false_iff_ne, ByteArray.toList_eq, ByteArray.toList_eq, eu, ev]
            exact all_ne n hn i (i - 1) hlt hlt' (by omega)
          rw [hne]
          exact j3
        · simp only [hi0, if_false]
          exact j3
      refine Ev.succ' ?_
      simp only [roadbooklaw06_TreeAll.l0]
      have c0 : (i : Int) < ((allL n).length : Int) := by omega
      have c1 : (0 : Int) ≤ (i : Int) := by omega
      simp only [c0, c1, if_true, rd_nat _ _ hlt]
      refine Ev.bind (may_ev (allL n)[i]) ?_
      simp only [hgv, if_true]
      refine Ev.bind (g := fun k => tree_Set.f k (allL n)[i].f0 (allL n)[i].f1) (a := sv (allL n)[i]) (Set_ev (allL n)[i]) ?_
      have : (sv (allL n)[i] != (n : Int)) = false := by rw [hsv]; simp
      rw [this]
      exact j2
    · exact fin i f s (by omega) hi hf hs
theorem ta_up (n : Int) (t : Tr) : Ev (fun k => roadbooklaw06_TreeAll.j0 k n true true t.f0 t.f1) true := by
  refine Ev.succ' ?_
  simp only [roadbooklaw06_TreeAll.j0, if_true]
  exact Ev.const true
theorem TreeAll_pure : TreeAll_Pure := by
  intro x0 x1 w0 w1
  refine Ev.get ?_
  unfold roadbooklaw06_TreeAll.f
  refine Ev.bind awake_ev ?_
  simp only [if_true]
  by_cases c0 : x0 < 1
  · simp only [c0, if_true]; exact ta_up x0 x1
  · by_cases c1 : x0 > 15
    · simp only [c0, c1, if_true, if_false]; exact ta_up x0 x1
    · simp only [c0, c1, if_false]
      obtain ⟨r0, h0⟩ := size_ev x1 100 (wf_of_all w1)
      refine Ev.bind h0 ?_
      by_cases c2 : r0 > 100
      · simp only [c2, decide_true]; exact ta_up x0 x1
      · simp only [c2, decide_false]
        obtain ⟨n, rfl⟩ : ∃ n : Nat, x0 = (n : Int) := ⟨x0.toNat, by omega⟩
        have hn1 : 1 ≤ n := by omega
        have hn : n < 16 := by omega
        refine Ev.succ' ?_
        simp only [roadbooklaw06_TreeAll.j0, Bool.false_eq_true, if_false]
        refine Ev.bind (all_ev n hn) ?_
        exact ta_l0 n hn1 hn x1 (allL n).length 0 false ⟨#[]⟩ (by omega) (by omega) ⟨fun h => by simp at h, fun h => by simp at h⟩ (by omega) (by decide)
end Go.Proofs.Ytdegbnjnbpjdfaa.T
