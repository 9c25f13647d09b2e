/- Plain facts on the values' functions: what they come to, said once. -/
import Derived.Test.YtdegbnjnbpjdfaaF2
import Derived.Test.YtdegbnjnbpjdfaaF3
namespace Go.Proofs.Ytdegbnjnbpjdfaa.F
open Go.RowKit Go.Proofs.YtdegbnjnbpjdfaaW.PrintWords Go.Proofs.YtdegbnjnbpjdfaaW.PrintLast Go.Proofs.YtdegbnjnbpjdfaaW.PrintMore
set_option linter.unusedVariables false
set_option linter.unusedSimpArgs false

theorem wrap_id {n : Int} (h0 : -9223372036854775808 ≤ n) (h1 : n ≤ 9223372036854775807) : wrap64 n = n := by unfold wrap64; omega
theorem wf_i64 {n : Int} (h : (Lit.int .i64 n).wf = true) : -9223372036854775808 ≤ n ∧ n ≤ 9223372036854775807 := by
  simp only [Lit.wf, Bool.and_eq_true, decide_eq_true_eq] at h
  exact h
abbrev V := S25
theorem vk_cases (a b : Int) : (vk a b = 0 ∧ a = 0) ∨ (vk a b = 1 ∧ a = 1 ∧ b = 0) ∨ (vk a b = 2) := by
  unfold vk
  split <;> omega
theorem vk_zero (b : Int) : vk 0 b = 0 := by unfold vk; split <;> omega
theorem vk_eq0 (a b : Int) : vk a b = 0 ↔ a = 0 := by unfold vk; split <;> omega
theorem vk_null : vk 1 0 = 1 := by decide
theorem vk_bad : vk 2 0 = 2 := by decide
theorem awake01 : roadbooklaw01_awake.f = some true := by decide +kernel
theorem rd_at (l : List V) (i : Nat) (h : i < l.length) : rd_T25 l (i : Int) = l[i] := by
  unfold rd_T25
  rw [Int.toNat_natCast, List.getD_eq_getElem?_getD, List.getElem?_eq_getElem h]; rfl
end Go.Proofs.Ytdegbnjnbpjdfaa.F
