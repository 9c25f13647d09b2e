/- TreeParts over plain data: each of two trees of one that may be may be, their sets are apart, and together its own; a tree of n occurrences has a text of 3n - 2 signs. Conditions: none. -/
import Derived.Test.YtdegbnjnbpjdfaaTSTreeParts
import Derived.Test.YtdegbnjnbpjdfaaTText
import Derived.Test.YtdegbnjnbpjdfaaTAwake
import Derived.Test.YtdegbnjnbpjdfaaT16
namespace Go.Proofs.Ytdegbnjnbpjdfaa.T
open Go.RowKit Go.Proofs.YtdegbnjnbpjdfaaW.PrintWords Go.Proofs.YtdegbnjnbpjdfaaW.PrintLast Go.Proofs.YtdegbnjnbpjdfaaW.PrintMore
set_option linter.unusedVariables false
set_option linter.unusedSimpArgs false
theorem wf_of_parts {t : Tr} (h : wf_S39 t) : Wf t := by
  induction h with
  | mk x h0 h1 g1 ih => exact .mk x (wf_i64 h0) h1 ih
theorem leaves_ev : ∀ (d : Nat) (t : Tr), (setV d t).2 = true → d ≤ 4 → ∃ l : List Int, Ev (fun k => roadbookref06_leaves.f k t.f0 t.f1 (5 - (d : Int))) (l, true) ∧ (tx d t).length + 2 = 3 * l.length ∧ 1 ≤ l.length ∧ ∀ n : Nat, n < 16 → (setV d t).1 = (n : Int) → l.length = pc n
  | 0, t, h, _ => by simp [setV] at h
  | d + 1, t, h, hd => by
    have c4 : ¬ (5 - ((d + 1 : Nat) : Int) > 4) := by omega
    rcases good_cases h with ⟨o, rfl, h0, h1⟩ | ⟨a, b, rfl, ha, hb, hab⟩
    · refine ⟨[o], ?_, ?_, by simp, ?_⟩
      · refine Ev.succ' ?_
        simp only [roadbookref06_leaves.f]
        have e0 : (([] : List Tr).length : Int) = 0 := rfl
        have e1 : o ≥ 0 := h0
        have e2 : decide (o ≤ 3) = true := decide_eq_true (by omega)
        simp only [c4, e0, e1, e2, if_true, if_false, Option.bind_some]
        exact Ev.const _
      · rw [tx_leaf, rune_leaf o h0 h1]; rfl
      · intro n hn e
        obtain ⟨m, m1, m2, m3, m4⟩ := shl_leaf o h0 h1
        rw [setV_leaf] at e
        have : n = m := by
          have e' : shl .i64 1 (mx (Int.tmod o 4) 0) = (n : Int) := e
          rw [m4] at e'; omega
        rw [this, m3]; rfl
    · obtain ⟨l, hl, t1, l1, p1⟩ := leaves_ev d a ha (by omega)
      obtain ⟨m, hm, t2, l2, p2⟩ := leaves_ev d b hb (by omega)
      obtain ⟨i, i1, i2, i3, i4, i5⟩ := set_good d a ha
      obtain ⟨j, j1, j2, j3, j4, j5⟩ := set_good d b hb
      have pl := p1 i i2 i4
      have pm := p2 j j2 j4
      have hw : wrap64 (5 - ((d + 1 : Nat) : Int) + 1) = 5 - (d : Int) := by rw [wrap_id (by omega) (by omega)]; omega
      refine ⟨l ++ m, ?_, ?_, by simp; omega, ?_⟩
      · refine Ev.succ' ?_
        simp only [roadbookref06_leaves.f]
        have q0 : ¬ ((([a, b] : List Tr).length : Int) = 0) := by simp
        have q2 : ((([a, b] : List Tr).length : Int) = 2) := rfl
        have qo : ((0 : Int) != 0) = false := rfl
        simp only [c4, q0, q2, qo, if_true, if_false]
        refine Ev.succ' ?_
        simp only [roadbookref06_leaves.j0, Bool.false_eq_true, if_false]
        have z1 : (0 : Int) < (([a, b] : List Tr).length : Int) := by simp
        have z2 : (1 : Int) < (([a, b] : List Tr).length : Int) := by simp
        simp only [z1, z2, if_true, hw]
        refine Ev.bind (g := fun k => roadbookref06_leaves.f k a.f0 a.f1 (5 - (d : Int))) hl ?_
        refine Ev.bind (g := fun k => roadbookref06_leaves.f k b.f0 b.f1 (5 - (d : Int))) hm ?_
        have y1 : ([] : List Int).length + l.length < 17592186044416 := by simp only [List.length_nil]; omega
        have y2 : l.length + m.length < 17592186044416 := by omega
        simp only [y1, if_true, Option.bind_some, List.nil_append, y2]
        exact Ev.const _
      · rw [tx_two]; simp only [List.length_cons, List.length_append, List.length_nil]; omega
      · intro n hn e
        rw [setV_two, if_pos rfl] at e
        have e' : Go.bits .or .i64 (setV d a).1 (setV d b).1 = (n : Int) := e
        rw [i4, j4, or_nat i j i2 j2] at e'
        have hab' : i &&& j = 0 := by
          rw [i4, j4, and_nat i j i2 j2] at hab; exact_mod_cast hab
        have : n = i ||| j := by omega
        rw [this, pc_or i j i2 j2 hab', List.length_append, pl, pm]
theorem tp_up (a : Tr) : Ev (fun k => roadbooklaw06_TreeParts.j0 k true true a.f0 a.f1) true := by
  refine Ev.succ' ?_
  simp only [roadbooklaw06_TreeParts.j0, if_true]
  exact Ev.const true
theorem tp_j1 (a : Tr) (ha : (setV 4 a).2 = true) : Ev (fun k => roadbooklaw06_TreeParts.j1 k false a.f0 a.f1) true := by
  refine Ev.succ' ?_
  simp only [roadbooklaw06_TreeParts.j1, Bool.false_eq_true, if_false]
  rcases good_cases ha with ⟨o, rfl, h0, h1⟩ | ⟨p, q, rfl, hp, hq, hpq⟩
  · have e0 : (([] : List Tr).length : Int) = 0 := rfl
    simp only [e0, if_true, tree_Leaf.f, Option.bind_some]
    exact Ev.bind (same_refl ⟨o, []⟩) (Ev.const true)
  · have q0 : ¬ ((([p, q] : List Tr).length : Int) = 0) := by simp
    have z1 : (0 : Int) < (([p, q] : List Tr).length : Int) := by simp
    have z2 : (1 : Int) < (([p, q] : List Tr).length : Int) := by simp
    simp only [q0, z1, z2, if_true, if_false]
    have hj := may_join p q
    have hc := hj.1
    rw [ha] at hc
    have hc := hc.symm
    simp only [Bool.and_eq_true, decide_eq_true_eq, beq_iff_eq] at hc
    obtain ⟨⟨hp0, hq0⟩, hand⟩ := hc
    have hor := hj.2 ha
    refine Ev.bind (g := fun k => tree_Set.f k p.f0 p.f1) (a := sv p) (Set_ev p) ?_
    refine Ev.bind (g := fun k => tree_Set.f k q.f0 q.f1) (a := sv q) (Set_ev q) ?_
    simp only [hp0, hq0, hand, if_true]
    refine Ev.bind (g := fun k => tree_Set.f k 0 [p, q]) (Set_ev ⟨0, [p, q]⟩) ?_
    simp only [ha, if_true, hor, tree_Join.f, Option.bind_some]
    have e1 : (⟨(rd_T39 [p, q] 0).f0, (rd_T39 [p, q] 0).f1⟩ : Tr) = p := tr_eta p
    have e2 : (⟨(rd_T39 [p, q] 1).f0, (rd_T39 [p, q] 1).f1⟩ : Tr) = q := tr_eta q
    rw [e1, e2]
    exact Ev.bind (same_refl ⟨0, [p, q]⟩) (Ev.const true)
theorem tp_j0 (a : Tr) (ha : (setV 4 a).2 = true) : Ev (fun k => roadbooklaw06_TreeParts.j0 k true false a.f0 a.f1) true := by
  obtain ⟨l, hl, t1, l1, p1⟩ := leaves_ev 4 a ha (by omega)
  obtain ⟨n, n1, n2, n3, n4, n5⟩ := set_good 4 a ha
  have pl := p1 n n2 n4
  obtain ⟨s, es, hs⟩ := Text_ev a ha
  refine Ev.succ' ?_
  simp only [roadbooklaw06_TreeParts.j0, Bool.false_eq_true, if_false]
  refine Ev.bind (g := fun k => roadbookref06_Leaves.f k a.f0 a.f1) (a := l) ?_ ?_
  · unfold roadbookref06_Leaves.f
    exact Ev.bind hl (Ev.const l)
  · refine Ev.bind (g := fun k => tree_Text.f k a.f0 a.f1) hs ?_
    have hsz : s.size = (tx 4 a).length := by rw [size_data, es]
    have e1 : (s.size : Int) = wrap64 (wrap64 (3 * (l.length : Int)) - 2) := by
      rw [wrap_id (n := 3 * (l.length : Int)) (by omega) (by omega), wrap_id (by omega) (by omega)]; omega
    have e2 : ¬ ((l.length : Int) < 1) := by omega
    have e3 : decide ((l.length : Int) > 4) = false := decide_eq_false (by omega)
    refine Ev.of_eq (tp_j1 a ha) fun k => ?_
    rw [if_pos e1, if_neg e2, e3]
theorem TreeParts_pure : TreeParts_Pure := by
  intro x0 w0
  refine Ev.get ?_
  unfold roadbooklaw06_TreeParts.f
  refine Ev.bind awake_ev ?_
  simp only [if_true]
  obtain ⟨r0, h0⟩ := size_ev x0 100 (wf_of_parts w0)
  refine Ev.bind h0 ?_
  by_cases c0 : r0 > 100
  · simp only [c0, if_true]; exact tp_up x0
  · simp only [c0, if_false]
    refine Ev.bind (may_ev x0) ?_
    cases ha : (setV 4 x0).2 with
    | false => exact tp_up x0
    | true => exact tp_j0 x0 ha
end Go.Proofs.Ytdegbnjnbpjdfaa.T
