/- What is less: the program's way, and by kinds and numbers. -/
import Derived.Test.YtdegbnjnbpjdfaaUNum
import Derived.Test.YtdegbnjnbpjdfaaU3
namespace Go.Proofs.Ytdegbnjnbpjdfaa.U
open Go.RowKit Go.Proofs.YtdegbnjnbpjdfaaW.PrintWords Go.Proofs.YtdegbnjnbpjdfaaW.PrintLast Go.Proofs.YtdegbnjnbpjdfaaW.PrintMore
theorem val_May_eq (a b : Int) : val_May.f a b = some (decide (0 ≤ a ∧ a < 3 ∧ (a = 0 ∨ b = 0))) := by
  unfold val_May.f
  by_cases h1 : 0 ≤ a <;> by_cases h2 : a < 3 <;> by_cases h3 : a = 0 <;> by_cases h4 : b = 0 <;> simp [h1, h2, h3, h4]
/-- the number that a value counts as -/
def vn (a b : Int) : Int := if 0 ≤ a ∧ a < 3 ∧ (a = 0 ∨ b = 0) then b else 0
def lessV (a0 a1 b0 b1 : Int) : Bool := decide (vk a0 a1 < vk b0 b1) || (vk a0 a1 == vk b0 b1 && decide (vn a0 a1 < vn b0 b1))
theorem cmp_eq (a b : Int) : cmp_Compare_int.f a b = some (if a < b then -1 else if a > b then 1 else 0) := by
  unfold cmp_Compare_int.f cmp_isNaN_int.f
  by_cases h : a < b <;> by_cases h2 : a > b <;> simp [h, h2]
theorem less_eq (k : Nat) (a0 a1 b0 b1 : Int) : val_Less.f (k + 3) a0 a1 b0 b1 = some (lessV a0 a1 b0 b1) := by
  unfold val_Less.f
  rw [val_fine.vk, Option.bind_some, val_fine.vk, Option.bind_some]
  simp only [cmp_eq, Option.bind_some]
  unfold cmp_Or_int.f lessV
  have e1 : (if 0 ≤ a0 ∧ a0 < 3 ∧ (a0 = 0 ∨ a1 = 0) then a1 else 0) = vn a0 a1 := rfl
  have e2 : (if 0 ≤ b0 ∧ b0 < 3 ∧ (b0 = 0 ∨ b1 = 0) then b1 else 0) = vn b0 b1 := rfl
  rw [e1, e2]
  generalize vk a0 a1 = p; generalize vk b0 b1 = q; generalize vn a0 a1 = m; generalize vn b0 b1 = n
  have w1 : wrap64 1 = 1 := wrap_id (by omega) (by omega)
  have w2 : wrap64 2 = 2 := wrap_id (by omega) (by omega)
  by_cases h1 : p < q
  · simp [cmp_Or_int.l0, rd, h1]
  · by_cases h2 : p > q
    · have : ¬ p = q := by omega
      simp [cmp_Or_int.l0, rd, h1, h2, this]
    · have : p = q := by omega
      subst this
      by_cases h3 : m < n
      · simp [cmp_Or_int.l0, rd, h3, w1]
      · by_cases h4 : m > n
        · have : ¬ m < n := by omega
          simp [cmp_Or_int.l0, rd, h3, h4, w1]
        · simp [cmp_Or_int.l0, rd, h3, h4, w1, w2]
theorem may_iff {a b : Int} (h : decide (0 ≤ a ∧ a < 3 ∧ (a = 0 ∨ b = 0)) = true) : vk a b = a ∧ vn a b = b := by
  have h := of_decide_eq_true h
  unfold vk vn
  rw [if_pos h, if_pos h]
  exact ⟨rfl, rfl⟩
theorem lessV_iff (a0 a1 b0 b1 : Int) : lessV a0 a1 b0 b1 = true ↔ vk a0 a1 < vk b0 b1 ∨ (vk a0 a1 = vk b0 b1 ∧ vn a0 a1 < vn b0 b1) := by
  unfold lessV; simp
theorem lessV_trans {a0 a1 b0 b1 c0 c1 : Int} (h : lessV a0 a1 b0 b1 = true) (k : lessV b0 b1 c0 c1 = true) : lessV a0 a1 c0 c1 = true := by
  rw [lessV_iff] at *; omega
theorem lessV_anti (a0 a1 b0 b1 : Int) : ¬ (lessV a0 a1 b0 b1 = true ∧ lessV b0 b1 a0 a1 = true) := by
  rw [lessV_iff, lessV_iff]; omega
theorem lessV_total {a0 a1 b0 b1 : Int} (h1 : decide (0 ≤ a0 ∧ a0 < 3 ∧ (a0 = 0 ∨ a1 = 0)) = true) (h2 : decide (0 ≤ b0 ∧ b0 < 3 ∧ (b0 = 0 ∨ b1 = 0)) = true) (hx : lessV a0 a1 b0 b1 = false) : (!lessV b0 b1 a0 a1) = (a0 == b0 && a1 == b1) := by
  obtain ⟨e1, e2⟩ := may_iff h1
  obtain ⟨e3, e4⟩ := may_iff h2
  have hx : ¬ lessV a0 a1 b0 b1 = true := by simp [hx]
  rw [lessV_iff, e1, e2, e3, e4] at hx
  have hy := lessV_iff b0 b1 a0 a1
  rw [e1, e2, e3, e4] at hy
  rw [Bool.eq_iff_iff]
  simp only [Bool.not_eq_true', Bool.and_eq_true, beq_iff_eq]
  rw [← Bool.not_eq_true, hy]
  omega
end Go.Proofs.Ytdegbnjnbpjdfaa.U
