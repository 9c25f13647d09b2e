/- ValBack over plain numbers: a sum less one of its parts is the other one, a product by one that is not 0 likewise. Conditions: none. -/
import Derived.Test.YtdegbnjnbpjdfaaVSValBack
import Derived.Test.YtdegbnjnbpjdfaaVNum
namespace Go.Proofs.Ytdegbnjnbpjdfaa.V
open Go.RowKit Go.Proofs.YtdegbnjnbpjdfaaW.PrintWords Go.Proofs.YtdegbnjnbpjdfaaW.PrintLast Go.Proofs.YtdegbnjnbpjdfaaW.PrintMore
theorem two_num (a b : Int) (n : Int × Int) : twoV (0, a) (0, b) n = n := by
  unfold twoV
  simp [vk_zero]
theorem may_num (n : Int) : val_May.f (numV n).1 (numV n).2 = some true := by
  unfold numV
  split <;> rfl
theorem ValBack_pure : ValBack_Pure := by
  intro a b ha hb
  have ha : In a := wf_i64 ha
  have hb : In b := wf_i64 hb
  refine ⟨0 + 1, ?_⟩
  unfold roadbooklaw01_ValBack.f val_Of.f
  simp only [awake01, Option.bind_some, add_eq ha hb, add_eq hb ha, mul_eq ha hb, mul_eq hb ha, two_num, if_true]
  rw [Int.add_comm b a, Int.mul_comm b a, if_neg (by simp), if_neg (by simp), may_num, Option.bind_some, if_pos rfl, may_num, Option.bind_some]
  simp only [roadbooklaw01_ValBack.j0]
  rw [if_neg (by simp)]
  have mulpart : (if (numV (a * b)).1 = 0 then (if b = 0 then some true else (val_Div.f (numV (a * b)).1 (numV (a * b)).2 0 b).bind fun bt227 => some (bt227.1 == 0 && bt227.2 == a)) else some true) = some true := by
    unfold numV
    by_cases h : In (a * b)
    · simp only [h, if_true]
      by_cases h0 : b = 0
      · rw [if_pos h0]
      · rw [if_neg h0, div_eq h hb, two_num, Option.bind_some]
        have hq : ¬ (b = 0 ∨ (b = -1 ∧ a * b = -9223372036854775808)) := by
          rintro (h1 | ⟨h1, h2⟩)
          · exact h0 h1
          · rw [h1] at h2; unfold In at ha; omega
        unfold quoV
        rw [if_neg hq, Int.mul_tdiv_cancel a h0]
        simp
    · simp only [h, if_false]
      rfl
  by_cases h : In (a + b)
  · have e : numV (a + b) = (0, a + b) := by unfold numV; rw [if_pos h]
    rw [e]
    simp only [if_true]
    rw [sub_eq h hb, two_num, Option.bind_some, show a + b - b = a by omega]
    have e2 : numV a = (0, a) := by unfold numV; rw [if_pos ha]
    rw [e2, if_neg (by simp)]
    exact mulpart
  · have e : numV (a + b) = (2, 0) := by unfold numV; rw [if_neg h]
    rw [e, if_neg (by decide)]
    exact mulpart
end Go.Proofs.Ytdegbnjnbpjdfaa.V
