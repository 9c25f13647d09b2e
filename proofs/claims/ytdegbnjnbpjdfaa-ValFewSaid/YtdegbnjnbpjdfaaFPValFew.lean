/- ValFew over plain data: an error, and anything, is an error; a sum's parts are numbers, or it is none. Conditions: none. -/
import Derived.Test.YtdegbnjnbpjdfaaFSValFew
import Derived.Test.YtdegbnjnbpjdfaaFNum
import Derived.Test.YtdegbnjnbpjdfaaF2
import Derived.Test.YtdegbnjnbpjdfaaF3
namespace Go.Proofs.Ytdegbnjnbpjdfaa.F
set_option linter.unusedVariables false
set_option linter.unusedSimpArgs false
open Go.RowKit Go.Proofs.YtdegbnjnbpjdfaaW.PrintWords Go.Proofs.YtdegbnjnbpjdfaaW.PrintLast Go.Proofs.YtdegbnjnbpjdfaaW.PrintMore
theorem two_bad (a0 a1 : Int) (n : Int × Int) : twoV (a0, a1) (2, 0) n = (2, 0) := by unfold twoV; rw [if_pos (.inr vk_bad)]
theorem bad_two (a0 a1 : Int) (n : Int × Int) : twoV (2, 0) (a0, a1) n = (2, 0) := by unfold twoV; rw [if_pos (.inl vk_bad)]
theorem in_zero : In 0 := by unfold In; omega
theorem few_eq (a0 a1 : Int) : val_Eq.f a0 a1 2 0 = some (2, 0) := by
  unfold val_Eq.f val_odd.f
  have e : oddV [⟨a0, a1⟩, ⟨2, 0⟩] = (2, 0, true) := by rw [odd_two, if_pos (Or.inr vk_bad)]
  rw [Option.bind_some, e]; rfl
theorem few_lt (a0 a1 : Int) : val_Lt.f 2 0 a0 a1 = some (2, 0) := by
  unfold val_Lt.f val_odd.f
  have e : oddV [⟨2, 0⟩, ⟨a0, a1⟩] = (2, 0, true) := by rw [odd_two, if_pos (Or.inl vk_bad)]
  rw [Option.bind_some, e]; rfl
abbrev L6 : List V := [⟨2, 0⟩, ⟨2, 0⟩, ⟨2, 0⟩, ⟨2, 0⟩, ⟨2, 0⟩, ⟨2, 0⟩]
theorem few_rd (i : Nat) (h : i < 6) : rd_T25 L6 (i : Int) = ⟨2, 0⟩ := by
  rw [rd_at L6 i h]
  have : i = 0 ∨ i = 1 ∨ i = 2 ∨ i = 3 ∨ i = 4 ∨ i = 5 := by omega
  rcases this with rfl | rfl | rfl | rfl | rfl | rfl <;> rfl
theorem few_step (k i : Nat) (h : i < 6) (a0 a1 b0 b1 : Int) : roadbooklaw01_ValFew.l0 (k + 1) true L6 (i : Int) a0 a1 b0 b1 2 0 1 0 = roadbooklaw01_ValFew.l0 k true L6 ((i + 1 : Nat) : Int) a0 a1 b0 b1 2 0 1 0 := by
  conv => lhs; unfold roadbooklaw01_ValFew.l0
  rw [few_rd i h, if_pos (by show (i : Int) < ((6 : Nat) : Int); omega), if_pos (by omega), if_neg (by decide), wrap_id (by omega) (by omega)]
  rfl
theorem few_stepB (k i : Nat) (h : i < 6) (a0 a1 b0 b1 : Int) : roadbooklaw01_ValFewB.l0 (k + 1) true L6 (i : Int) a0 a1 b0 b1 2 0 1 0 = roadbooklaw01_ValFewB.l0 k true L6 ((i + 1 : Nat) : Int) a0 a1 b0 b1 2 0 1 0 := by
  conv => lhs; unfold roadbooklaw01_ValFewB.l0
  rw [few_rd i h, if_pos (by show (i : Int) < ((6 : Nat) : Int); omega), if_pos (by omega), if_neg (by decide), wrap_id (by omega) (by omega)]
  rfl
theorem few_and : val_And.f [⟨2, 0⟩, ⟨0, 0⟩] = some (0, 0) := by decide +kernel
theorem few_or : val_Or.f [⟨2, 0⟩, ⟨0, 1⟩] = some (0, 1) := by decide +kernel
theorem few_of (n : Int) : val_Of.f n = some (0, n) := rfl
theorem two_num {a0 a1 b0 b1 : Int} {n : Int × Int} (h : (twoV (a0, a1) (b0, b1) n).1 = 0) : a0 = 0 ∧ b0 = 0 := by
  unfold twoV at h
  rcases vk_cases a0 a1 with ⟨e, f⟩ | ⟨e, _⟩ | e <;> rcases vk_cases b0 b1 with ⟨e', f'⟩ | ⟨e', _⟩ | e' <;> simp only [e, e'] at h <;> first | exact ⟨f, f'⟩ | (exfalso; simp at h; done)
theorem few_null (a0 a1 : Int) (h : vk a0 a1 ≠ 2) (n : Int × Int) : twoV (a0, a1) (1, 0) n = (1, 0) := by
  unfold twoV
  rw [vk_null, if_neg (by intro e; rcases e with e | e; exact h e; omega), if_pos (.inr rfl)]
theorem few_err (a0 a1 : Int) (h : vk a0 a1 = 2) (n : Int × Int) : twoV (a0, a1) (1, 0) n = (2, 0) := by
  unfold twoV
  rw [if_pos (.inl h)]
theorem few_end (a0 a1 b0 b1 : Int) (ha : In a1) (hb : In b1) (h : vk a0 a1 ≠ 2) : roadbooklaw01_ValFew.l0 1 true L6 ((6 : Nat) : Int) a0 a1 b0 b1 2 0 1 0 = some true := by
  unfold roadbooklaw01_ValFew.l0
  rw [if_neg (by show ¬ ((6 : Nat) : Int) < ((6 : Nat) : Int); omega), add_eq ha hb, Option.bind_some, add_eq ha in_zero, Option.bind_some, few_null _ _ h]
  simp only [few_of, few_and, few_or, Option.bind_some, if_true, Bool.and_self, beq_self_eq_true]
  by_cases hk : (twoV (a0, a1) (b0, b1) (numV (a1 + b1))).1 = 0
  · obtain ⟨rfl, rfl⟩ := two_num hk
    rw [if_pos hk, if_pos rfl, if_pos rfl]
  · rw [if_neg hk]
theorem few_endB (a0 a1 b0 b1 : Int) (ha : In a1) (hb : In b1) (h : vk a0 a1 = 2) : roadbooklaw01_ValFewB.l0 1 true L6 ((6 : Nat) : Int) a0 a1 b0 b1 2 0 1 0 = some true := by
  unfold roadbooklaw01_ValFewB.l0
  rw [if_neg (by show ¬ ((6 : Nat) : Int) < ((6 : Nat) : Int); omega), add_eq ha hb, Option.bind_some, add_eq ha in_zero, Option.bind_some, few_err _ _ h]
  simp only [few_of, few_and, few_or, Option.bind_some, if_true, Bool.and_self, beq_self_eq_true]
  by_cases hk : (twoV (a0, a1) (b0, b1) (numV (a1 + b1))).1 = 0
  · obtain ⟨rfl, rfl⟩ := two_num hk
    exact absurd h (by rw [vk_zero]; decide)
  · rw [if_neg hk]; rfl
theorem ValFew_pure : ValFew_Pure := by
  intro x0 x1 w0 w1
  have ha := wf_i64 w0.2
  have hb := wf_i64 w1.2
  refine ⟨7, ?_⟩
  by_cases h : vk x0.f0 x0.f1 = 2
  · right
    unfold roadbooklaw01_ValFewB.f
    rw [awake01, Option.bind_some, add_eq ha in_zero, Option.bind_some, sub_eq in_zero ha, Option.bind_some, mul_eq ha in_zero, Option.bind_some, div_eq in_zero ha, Option.bind_some, few_eq, Option.bind_some, few_lt, Option.bind_some]
    simp only [two_bad, bad_two]
    exact (few_stepB 6 0 (by omega) _ _ _ _).trans <| (few_stepB 5 1 (by omega) _ _ _ _).trans <| (few_stepB 4 2 (by omega) _ _ _ _).trans <| (few_stepB 3 3 (by omega) _ _ _ _).trans <| (few_stepB 2 4 (by omega) _ _ _ _).trans <| (few_stepB 1 5 (by omega) _ _ _ _).trans <| few_endB _ _ _ _ ha hb h
  · left
    unfold roadbooklaw01_ValFew.f
    rw [awake01, Option.bind_some, add_eq ha in_zero, Option.bind_some, sub_eq in_zero ha, Option.bind_some, mul_eq ha in_zero, Option.bind_some, div_eq in_zero ha, Option.bind_some, few_eq, Option.bind_some, few_lt, Option.bind_some]
    simp only [two_bad, bad_two]
    exact (few_step 6 0 (by omega) _ _ _ _).trans <| (few_step 5 1 (by omega) _ _ _ _).trans <| (few_step 4 2 (by omega) _ _ _ _).trans <| (few_step 3 3 (by omega) _ _ _ _).trans <| (few_step 2 4 (by omega) _ _ _ _).trans <| (few_step 1 5 (by omega) _ _ _ _).trans <| few_end _ _ _ _ ha hb h
end Go.Proofs.Ytdegbnjnbpjdfaa.F
