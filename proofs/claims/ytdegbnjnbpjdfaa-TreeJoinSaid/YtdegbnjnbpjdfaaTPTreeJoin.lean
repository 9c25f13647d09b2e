/- TreeJoin over plain data: two trees without a common occurrence are put together to one of both sets, others to none that may be. Conditions: none. -/
import Derived.Test.YtdegbnjnbpjdfaaTSTreeJoin
import Derived.Test.YtdegbnjnbpjdfaaTSet
import Derived.Test.YtdegbnjnbpjdfaaTAwake
namespace Go.Proofs.Ytdegbnjnbpjdfaa.T
open Go.RowKit Go.Proofs.YtdegbnjnbpjdfaaW.PrintWords Go.Proofs.YtdegbnjnbpjdfaaW.PrintLast Go.Proofs.YtdegbnjnbpjdfaaW.PrintMore
set_option linter.unusedVariables false
set_option linter.unusedSimpArgs false
theorem wf_of_join {t : Tr} (h : wf_S39 t) : Wf t := by
  induction h with
  | mk x h0 h1 g1 ih => exact .mk x (wf_i64 h0) h1 ih
theorem j2_ev (a b : Tr) : Ev (fun k => roadbooklaw06_TreeJoin.j2 k (sv a) (sv b) (decide (sv a > 0) && decide (sv b > 0) && (Go.bits .and .i64 (sv a) (sv b) == 0)) a.f0 a.f1 b.f0 b.f1 0 [a, b]) true := by
  obtain ⟨e1, e2⟩ := may_join a b
  generalize hc : (decide (sv a > 0) && decide (sv b > 0) && (Go.bits .and .i64 (sv a) (sv b) == 0)) = c at e1
  refine Ev.succ' ?_
  simp only [roadbooklaw06_TreeJoin.j2, tree_Join.f, Option.bind_some, tr_eta]
  refine Ev.bind (may_ev ⟨0, [a, b]⟩) ?_
  rw [e1]
  simp only [beq_self_eq_true, if_true]
  cases c with
  | true =>
    simp only [if_true]
    refine Ev.bind (Set_ev ⟨0, [a, b]⟩) ?_
    simp only [e1, if_true, e2 e1]
    refine Ev.bind (same_refl ⟨0, [a, b]⟩) ?_
    exact Ev.const true
  | false =>
    simp only [Bool.false_eq_true, if_false]
    refine Ev.bind (same_refl ⟨0, [a, b]⟩) ?_
    exact Ev.const true
theorem j1_ev (a b : Tr) : Ev (fun k => roadbooklaw06_TreeJoin.j1 k (sv a) (sv b) false a.f0 a.f1 b.f0 b.f1 0 [a, b]) true := by
  have h := j2_ev a b
  refine Ev.succ' ?_
  simp only [roadbooklaw06_TreeJoin.j1, Bool.false_eq_true, if_false]
  by_cases ha : sv a > 0
  · by_cases hb : sv b > 0
    · simp only [ha, hb, if_true]
      simpa only [ha, hb, decide_true, Bool.true_and] using h
    · simp only [ha, hb, if_true, if_false]
      simpa only [ha, hb, decide_true, decide_false, Bool.true_and, Bool.false_and] using h
  · simp only [ha, if_false]
    simpa only [ha, decide_false, Bool.false_and] using h
theorem j0_ev (a b : Tr) : Ev (fun k => roadbooklaw06_TreeJoin.j0 k true false a.f0 a.f1 b.f0 b.f1) true := by
  refine Ev.succ' ?_
  simp only [roadbooklaw06_TreeJoin.j0, Bool.false_eq_true, if_false, tree_Join.f, Option.bind_some, tr_eta]
  refine Ev.bind (Set_ev a) ?_
  refine Ev.bind (Set_ev b) ?_
  refine Ev.bind (may_ev a) ?_
  have ha := sv_may a
  have hb := sv_may b
  unfold sv at ha hb
  have ha' : ((setV 4 a).2 != decide ((if (setV 4 a).2 = true then (setV 4 a).1 else 0) > 0)) = false := by rw [← ha]; simp
  have hb' : ((setV 4 b).2 != decide ((if (setV 4 b).2 = true then (setV 4 b).1 else 0) > 0)) = false := by rw [← hb]; simp
  rw [ha']
  simp only [Bool.false_eq_true, if_false]
  refine Ev.bind (may_ev b) ?_
  rw [hb']
  exact j1_ev a b
theorem j0_up (a b : Tr) : Ev (fun k => roadbooklaw06_TreeJoin.j0 k true true a.f0 a.f1 b.f0 b.f1) true := by
  refine Ev.succ' ?_
  simp only [roadbooklaw06_TreeJoin.j0, if_true]
  exact Ev.const true
theorem TreeJoin_pure : TreeJoin_Pure := by
  intro x0 x1 w0 w1
  refine Ev.get ?_
  unfold roadbooklaw06_TreeJoin.f
  refine Ev.bind awake_ev ?_
  simp only [if_true]
  obtain ⟨r0, h0⟩ := size_ev x0 100 (wf_of_join w0)
  obtain ⟨r1, h1⟩ := size_ev x1 100 (wf_of_join w1)
  refine Ev.bind h0 ?_
  by_cases c0 : r0 > 100
  · simp only [c0, if_true]; exact j0_up x0 x1
  · simp only [c0, if_false]
    refine Ev.bind h1 ?_
    by_cases c1 : r1 > 100
    · simp only [c1, decide_true]; exact j0_up x0 x1
    · simp only [c1, decide_false]; exact j0_ev x0 x1
end Go.Proofs.Ytdegbnjnbpjdfaa.T
