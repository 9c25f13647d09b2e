/- Plain facts on the values' functions: what they come to, said once. -/
import Derived.Test.YtdegbnjnbpjdfaaV2
import Derived.Test.YtdegbnjnbpjdfaaV3
namespace Go.Proofs.Ytdegbnjnbpjdfaa.V
open Go.RowKit Go.Proofs.YtdegbnjnbpjdfaaW.PrintWords Go.Proofs.YtdegbnjnbpjdfaaW.PrintLast Go.Proofs.YtdegbnjnbpjdfaaW.PrintMore
set_option linter.unusedVariables false
set_option linter.unusedSimpArgs false

theorem wrap_id {n : Int} (h0 : -9223372036854775808 ≤ n) (h1 : n ≤ 9223372036854775807) : wrap64 n = n := by unfold wrap64; omega
theorem wf_i64 {n : Int} (h : (Lit.int .i64 n).wf = true) : -9223372036854775808 ≤ n ∧ n ≤ 9223372036854775807 := by
  simp only [Lit.wf, Bool.and_eq_true, decide_eq_true_eq] at h
  exact h
abbrev V := S25
theorem vk_cases (a b : Int) : (vk a b = 0 ∧ a = 0) ∨ (vk a b = 1 ∧ a = 1 ∧ b = 0) ∨ (vk a b = 2) := by
  unfold vk
  split <;> omega
theorem vk_zero (b : Int) : vk 0 b = 0 := by unfold vk; split <;> omega
theorem vk_eq0 (a b : Int) : vk a b = 0 ↔ a = 0 := by unfold vk; split <;> omega
theorem vk_null : vk 1 0 = 1 := by decide
theorem vk_bad : vk 2 0 = 2 := by decide
def notV (a b : Int) : Int × Int := if vk a b = 2 then (2, 0) else if vk a b = 1 then (1, 0) else if b = 0 then (0, 1) else (0, 0)
theorem val_Not_eq (a b : Int) : val_Not.f a b = some (notV a b) := by
  unfold val_Not.f val_odd.f oddV notV val_of.f val_Of.f
  rcases vk_cases a b with ⟨h, _⟩ | ⟨h, _⟩ | h
  · simp only [List.any_cons, List.any_nil, h]
    by_cases hb : b = 0 <;> simp [hb]
  · simp [h]
  · simp [h]
theorem notV_true (a b : Int) : ((notV a b).1 == 0 && (notV a b).2 != 0) = (a == 0 && b == 0) := by
  unfold notV
  rcases vk_cases a b with ⟨h, h1⟩ | ⟨h, h1, h2⟩ | h
  · simp only [h]
    by_cases hb : b = 0 <;> simp [hb, h1]
  · simp only [h]
    simp [h1]
  · have : a ≠ 0 := fun e => by rw [e, vk_zero] at h; omega
    simp [h, this]
theorem notV_false (a b : Int) : ((notV a b).1 == 0 && (notV a b).2 == 0) = (a == 0 && b != 0) := by
  unfold notV
  rcases vk_cases a b with ⟨h, h1⟩ | ⟨h, h1, h2⟩ | h
  · simp only [h]
    by_cases hb : b = 0 <;> simp [hb, h1]
  · simp only [h]
    simp [h1]
  · have : a ≠ 0 := fun e => by rw [e, vk_zero] at h; omega
    simp [h, this]
theorem vk_notV (a b : Int) : vk (notV a b).1 (notV a b).2 = vk a b := by
  unfold notV
  rcases vk_cases a b with ⟨h, h1⟩ | ⟨h, h1, h2⟩ | h
  · simp only [h]
    by_cases hb : b = 0 <;> simp [hb, vk_zero]
  · simp [h, vk_null]
  · simp [h, vk_bad]
theorem awake01 : roadbooklaw01_awake.f = some true := by decide +kernel
theorem any_congr {α : Type} {p q : α → Bool} (h : ∀ x, p x = q x) (l : List α) : l.any p = l.any q := by rw [show p = q from funext h]
def notL (l : List V) : List V := l.map fun s => ⟨(notV s.f0 s.f1).1, (notV s.f0 s.f1).2⟩
theorem oddV_not (l : List V) : oddV (notL l) = oddV l := by
  unfold oddV notL
  simp only [List.any_map, Function.comp_def, vk_notV]
theorem morgan1 (l : List V) : notV (andV l).1 (andV l).2 = orV (notL l) := by
  unfold andV orV threeV
  rw [oddV_not]
  have : (notL l).any (fun s => s.f0 == 0 && s.f1 != 0) = l.any (fun s => s.f0 == 0 && s.f1 == 0) := by
    unfold notL; simp only [List.any_map, Function.comp_def, notV_true]
  rw [this]
  split
  · decide
  · unfold oddV
    split
    · decide
    · split <;> decide
theorem morgan2 (l : List V) : notV (orV l).1 (orV l).2 = andV (notL l) := by
  unfold andV orV threeV
  rw [oddV_not]
  have : (notL l).any (fun s => s.f0 == 0 && s.f1 == 0) = l.any (fun s => s.f0 == 0 && s.f1 != 0) := by
    unfold notL; simp only [List.any_map, Function.comp_def, notV_false]
  rw [this]
  split
  · decide
  · unfold oddV
    split
    · decide
    · split <;> decide
theorem rd_at (l : List V) (i : Nat) (h : i < l.length) : rd_T25 l (i : Int) = l[i] := by
  unfold rd_T25
  rw [Int.toNat_natCast, List.getD_eq_getElem?_getD, List.getElem?_eq_getElem h]; rfl
end Go.Proofs.Ytdegbnjnbpjdfaa.V
