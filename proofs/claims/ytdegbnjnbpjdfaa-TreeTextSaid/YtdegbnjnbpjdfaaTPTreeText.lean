/- TreeText over plain data: two trees that may be have the same text just if they are the same; a tree turned has another one. Conditions: none. -/
import Derived.Test.YtdegbnjnbpjdfaaTSTreeText
import Derived.Test.YtdegbnjnbpjdfaaTText
import Derived.Test.YtdegbnjnbpjdfaaTAwake
namespace Go.Proofs.Ytdegbnjnbpjdfaa.T
open Go.RowKit Go.Proofs.YtdegbnjnbpjdfaaW.PrintWords Go.Proofs.YtdegbnjnbpjdfaaW.PrintLast Go.Proofs.YtdegbnjnbpjdfaaW.PrintMore
set_option linter.unusedVariables false
set_option linter.unusedSimpArgs false
theorem wf_of_text {t : Tr} (h : wf_S39 t) : Wf t := by
  induction h with
  | mk x h0 h1 g1 ih => exact .mk x (wf_i64 h0) h1 ih
theorem tt_j1 (a b : Tr) (ha : (setV 4 a).2 = true) (hb : (setV 4 b).2 = true) : Ev (fun k => roadbooklaw06_TreeText.j1 k false a.f0 a.f1 b.f0 b.f1) true := by
  obtain ⟨s, es, hs⟩ := Text_ev a ha
  obtain ⟨u, eu, hu⟩ := Text_ev b hb
  obtain ⟨r, hr, er⟩ := same_ev a b
  refine Ev.succ' ?_
  simp only [roadbooklaw06_TreeText.j1, Bool.false_eq_true, if_false]
  refine Ev.bind (g := fun k => tree_Text.f k a.f0 a.f1) hs ?_
  refine Ev.bind (g := fun k => tree_Text.f k b.f0 b.f1) hu ?_
  refine Ev.bind (g := fun k => tree_Same.f k a.f0 a.f1 b.f0 b.f1) hr ?_
  have : ((s.toList == u.toList) == r) = true := by
    rw [beq_iff_eq, Bool.eq_iff_iff, er, beq_iff_eq, ByteArray.toList_eq, ByteArray.toList_eq, es, eu]
    constructor
    · intro h; exact (tx_inj 4 a b [] [] ha hb (by rw [h])).1
    · intro h; rw [h]
  rw [this]
  exact Ev.const true
theorem tt_up (a b : Tr) : Ev (fun k => roadbooklaw06_TreeText.j0 k true true a.f0 a.f1 b.f0 b.f1) true := by
  refine Ev.succ' ?_
  simp only [roadbooklaw06_TreeText.j0, if_true]
  exact Ev.const true
theorem tt_j0 (a b : Tr) (ha : (setV 4 a).2 = true) (hb : (setV 4 b).2 = true) : Ev (fun k => roadbooklaw06_TreeText.j0 k true false a.f0 a.f1 b.f0 b.f1) true := by
  refine Ev.succ' ?_
  simp only [roadbooklaw06_TreeText.j0, Bool.false_eq_true, if_false]
  rcases good_cases ha with ⟨o, rfl, h0, h1⟩ | ⟨p, q, rfl, hp, hq, hpq⟩
  · have e0 : ¬ ((([] : List Tr).length : Int) = 2) := by simp
    simp only [e0, if_false]
    exact tt_j1 ⟨o, []⟩ b ha hb
  · have e0 : (([p, q] : List Tr).length : Int) = 2 := rfl
    have e1 : (1 : Int) < (([p, q] : List Tr).length : Int) := by simp
    have e2 : (0 : Int) < (([p, q] : List Tr).length : Int) := by simp
    have hrev : (setV 4 ⟨0, [q, p]⟩).2 = true := by
      obtain ⟨n, n1, n2, n3, n4, n5⟩ := set_good 3 p hp
      obtain ⟨m, m1, m2, m3, m4, m5⟩ := set_good 3 q hq
      rw [setV_two, if_pos rfl, hp, hq, n4, m4, and_nat m n m2 n2, Nat.and_comm]
      rw [n4, m4, and_nat n m n2 m2] at hpq
      rw [hpq]; rfl
    obtain ⟨s, es, hs⟩ := Text_ev ⟨0, [q, p]⟩ hrev
    obtain ⟨u, eu, hu⟩ := Text_ev ⟨0, [p, q]⟩ ha
    simp only [e0, e1, e2, if_true, tree_Join.f, Option.bind_some, tr_eta]
    refine Ev.bind (g := fun k => tree_Text.f k 0 [q, p]) hs ?_
    refine Ev.bind (g := fun k => tree_Text.f k 0 [p, q]) hu ?_
    have hne : (s.toList == u.toList) = false := by
      rw [beq_eq_false_iff_ne, ByteArray.toList_eq, ByteArray.toList_eq, es, eu]
      intro h
      have he := (tx_inj 4 ⟨0, [q, p]⟩ ⟨0, [p, q]⟩ [] [] hrev ha (by rw [h])).1
      have hqp : q = p := by
        have := (tr_ext.1 he).2
        simp only [List.cons.injEq] at this
        exact this.1
      obtain ⟨n, n1, n2, n3, n4, n5⟩ := set_good 3 p hp
      rw [hqp, n4, and_nat n n n2 n2, Nat.and_self] at hpq
      omega
    rw [hne]
    exact tt_j1 ⟨0, [p, q]⟩ b ha hb
theorem TreeText_pure : TreeText_Pure := by
  intro x0 x1 w0 w1
  refine Ev.get ?_
  unfold roadbooklaw06_TreeText.f
  refine Ev.bind awake_ev ?_
  simp only [if_true]
  obtain ⟨r0, h0⟩ := size_ev x0 100 (wf_of_text w0)
  obtain ⟨r1, h1⟩ := size_ev x1 100 (wf_of_text w1)
  refine Ev.bind h0 ?_
  by_cases c0 : r0 > 100
  · simp only [c0, if_true]; exact tt_up x0 x1
  · simp only [c0, if_false]
    refine Ev.bind h1 ?_
    by_cases c1 : r1 > 100
    · simp only [c1, if_true]; exact tt_up x0 x1
    · simp only [c1, if_false]
      refine Ev.bind (may_ev x0) ?_
      cases ha : (setV 4 x0).2 with
      | false => simp only [Bool.false_eq_true, if_false]; exact tt_up x0 x1
      | true =>
        simp only [if_true]
        refine Ev.bind (may_ev x1) ?_
        cases hb : (setV 4 x1).2 with
        | false => exact tt_up x0 x1
        | true => exact tt_j0 x0 x1 ha hb
end Go.Proofs.Ytdegbnjnbpjdfaa.T
