/- ValOrder over plain data: of two values that may be one is less, or they are the same; what is less than what is less is less. Conditions: none. -/
import Derived.Test.YtdegbnjnbpjdfaaVSValOrder
import Derived.Test.YtdegbnjnbpjdfaaVLess
namespace Go.Proofs.Ytdegbnjnbpjdfaa.V
open Go.RowKit Go.Proofs.YtdegbnjnbpjdfaaW.PrintWords Go.Proofs.YtdegbnjnbpjdfaaW.PrintLast Go.Proofs.YtdegbnjnbpjdfaaW.PrintMore
theorem ValOrder_pure : ValOrder_Pure := by
  intro a b c _ _ _
  refine ⟨0 + 1 + 1 + 1 + 3, ?_⟩
  unfold roadbooklaw01_ValOrder.f
  rw [awake01, Option.bind_some, less_eq, Option.bind_some, less_eq, Option.bind_some, if_pos rfl]
  have hj2 : ∀ k, roadbooklaw01_ValOrder.j2 (k + 1) (lessV a.f0 a.f1 b.f0 b.f1) false a.f0 a.f1 b.f0 b.f1 = some true := by
    intro k
    simp only [roadbooklaw01_ValOrder.j2]
    rw [if_neg (by decide), val_May_eq, Option.bind_some]
    split
    · rename_i h1
      rw [val_May_eq, Option.bind_some]
      split
      · rename_i h2
        split
        · rfl
        · rename_i h3
          have e1 := (may_iff h1).1
          have e2 := (may_iff h2).1
          have : lessV a.f0 a.f1 b.f0 b.f1 = true := by
            unfold lessV
            rw [e1, e2, Bool.or_eq_true]
            left
            rw [decide_eq_true_eq]; omega
          rw [this]
      · rfl
    · rfl
  have hj1 : ∀ k, roadbooklaw01_ValOrder.j1 (k + 1 + 3) (lessV a.f0 a.f1 b.f0 b.f1) false a.f0 a.f1 b.f0 b.f1 c.f0 c.f1 = some true := by
    intro k
    simp only [roadbooklaw01_ValOrder.j1]
    rw [if_neg (by decide)]
    split
    · rename_i hx
      rw [show k + 3 = k + 3 from rfl, less_eq, Option.bind_some]
      split
      · rename_i hy
        rw [less_eq, Option.bind_some, lessV_trans hx hy]
        exact hj2 _
      · exact hj2 _
    · exact hj2 _
  have hj0 : ∀ k, roadbooklaw01_ValOrder.j0 (k + 1 + 1 + 3) (lessV a.f0 a.f1 b.f0 b.f1) (lessV b.f0 b.f1 a.f0 a.f1) false a.f0 a.f1 b.f0 b.f1 c.f0 c.f1 = some true := by
    intro k
    simp only [roadbooklaw01_ValOrder.j0]
    rw [if_neg (by decide), val_May_eq, Option.bind_some]
    split
    · rename_i h1
      rw [val_May_eq, Option.bind_some]
      split
      · rename_i h2
        split
        · exact hj1 _
        · rename_i hx
          have e := lessV_total h1 h2 (by simpa using hx)
          rw [show ((!lessV b.f0 b.f1 a.f0 a.f1) != (a.f0 == b.f0 && a.f1 == b.f1)) = false by rw [← e]; simp]
          exact hj1 _
      · exact hj1 _
    · exact hj1 _
  have hanti := lessV_anti a.f0 a.f1 b.f0 b.f1
  split
  · rename_i hx
    have hy : lessV b.f0 b.f1 a.f0 a.f1 = false := by
      cases hy : lessV b.f0 b.f1 a.f0 a.f1 with
      | false => rfl
      | true => exact absurd ⟨hx, hy⟩ hanti
    have := hj0 1
    rw [hy] at this ⊢
    exact this
  · exact hj0 1
end Go.Proofs.Ytdegbnjnbpjdfaa.V
