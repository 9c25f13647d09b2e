/- The reference's values: what its functions come to, said by kinds and numbers. -/
import Derived.Test.YtdegbnjnbpjdfaaVSum
import Derived.Test.YtdegbnjnbpjdfaaVLess
import Derived.Test.YtdegbnjnbpjdfaaV8
namespace Go.Proofs.Ytdegbnjnbpjdfaa.V
open Go.RowKit Go.Proofs.YtdegbnjnbpjdfaaW.PrintWords Go.Proofs.YtdegbnjnbpjdfaaW.PrintLast Go.Proofs.YtdegbnjnbpjdfaaW.PrintMore
theorem ref_May_eq (a b : Int) : roadbookref01_May.f a b = some (decide (0 ≤ a ∧ a < 3 ∧ (a = 0 ∨ b = 0))) := by
  unfold roadbookref01_May.f
  by_cases h0 : a = 0
  · simp [h0]
  · by_cases h1 : a = 1
    · by_cases hb : b = 0 <;> simp [h1, hb]
    · by_cases h2 : a = 2
      · by_cases hb : b = 0 <;> simp [h2, hb]
      · rw [if_neg h0, if_neg h1, if_neg h2]
        congr 1
        symm
        rw [decide_eq_false_iff_not]
        omega
theorem ref_fine_eq (a b : Int) : roadbookref01_fine.f a b = some (vk a b, vn a b) := by
  unfold roadbookref01_fine.f vk vn
  rw [ref_May_eq, Option.bind_some]
  by_cases h : 0 ≤ a ∧ a < 3 ∧ (a = 0 ∨ b = 0)
  · rw [if_pos (by simpa using h), if_pos h, if_pos h]
  · rw [if_neg (by simpa using h), if_neg h, if_neg h]
theorem vn_of (a b : Int) (h : vk a b ≠ 0) : vn a b = 0 := by
  unfold vk at h
  unfold vn
  split
  · rename_i hc
    rw [if_pos hc] at h
    omega
  · rfl
theorem vn_num {a b : Int} (h : vk a b = 0) : vn a b = b := by
  have ha := (vk_eq0 a b).1 h
  unfold vn
  rw [if_pos (by omega)]
def refOddV (l : List V) : Int × Int × Bool := if l.any (fun s => vk s.f0 s.f1 == 2) then (2, 0, true) else (1, 0, l.any (fun s => vk s.f0 s.f1 == 1))
theorem refOdd_loop (l : List V) (hm : l.length ≤ 1000000) : ∀ (d i k : Nat) (x : Bool), l.length - i = d → i ≤ l.length → d < k → roadbookref01_odd.l0 k l x (i : Int) = some (if (l.drop i).any (fun s => vk s.f0 s.f1 == 2) then (2, 0, true) else (1, 0, x || (l.drop i).any (fun s => vk s.f0 s.f1 == 1))) := by
  intro d
  induction d with
  | zero =>
    intro i k x hd hi hk
    obtain ⟨k, rfl⟩ : ∃ m, k = m + 1 := ⟨k - 1, by omega⟩
    have hi : i = l.length := by omega
    subst hi
    simp only [roadbookref01_odd.l0]
    rw [if_neg (by omega)]
    simp
  | succ d ih =>
    intro i k x hd hi hk
    obtain ⟨k, rfl⟩ : ∃ m, k = m + 1 := ⟨k - 1, by omega⟩
    have hlt : i < l.length := by omega
    have e : wrap64 ((i : Int) + 1) = ((i + 1 : Nat) : Int) := by rw [wrap_id (by omega) (by omega)]; rfl
    simp only [roadbookref01_odd.l0]
    rw [if_pos (by omega), if_pos (by omega), rd_at l i hlt, ref_fine_eq, Option.bind_some, List.drop_eq_getElem_cons hlt, List.any_cons, List.any_cons, e]
    simp only
    by_cases h2 : vk l[i].f0 l[i].f1 = 2
    · rw [if_pos h2]
      simp [h2, vn_of _ _ (show vk l[i].f0 l[i].f1 ≠ 0 by omega)]
    · rw [if_neg h2, ih (i + 1) k _ (by omega) (by omega) (by omega), ih (i + 1) k _ (by omega) (by omega) (by omega)]
      have h2' : (vk l[i].f0 l[i].f1 == 2) = false := by simpa using h2
      rw [h2', Bool.false_or]
      cases x <;> simp
theorem refOdd_eq (l : List V) (hm : l.length ≤ 1000000) (k : Nat) (hk : l.length < k) : roadbookref01_odd.f k l = some (refOddV l) := by
  unfold roadbookref01_odd.f refOddV
  have := refOdd_loop l hm l.length 0 k false (by omega) (by omega) hk
  rw [List.drop_zero] at this
  simpa using this
theorem refOdd_flag (l : List V) : (refOddV l).2.2 = (oddV l).2.2 := by
  unfold refOddV oddV
  split
  · rfl
  · split
    · assumption
    · rename_i h; simpa using h
theorem refOdd_val (l : List V) (h : (oddV l).2.2 = true) : ((refOddV l).1, (refOddV l).2.1) = ((oddV l).1, (oddV l).2.1) := by
  unfold refOddV
  unfold oddV at h ⊢
  split
  · rfl
  · rename_i h2
    rw [if_neg h2] at h
    split
    · rfl
    · rename_i h3
      rw [if_neg h3] at h
      cases h
theorem ref_three (l : List V) (a : Int × Int) : (if (refOddV l).2.2 = true then some ((refOddV l).1, (refOddV l).2.1) else some a) = some (if (oddV l).2.2 then ((oddV l).1, (oddV l).2.1) else a) := by
  rw [refOdd_flag]
  by_cases h : (oddV l).2.2 = true
  · rw [if_pos h, if_pos h, refOdd_val l h]
  · rw [if_neg h, if_neg h]
theorem refAnd_loop (l : List V) (hm : l.length ≤ 1000000) : ∀ (d i k : Nat), l.length - i = d → i ≤ l.length → d + l.length + 1 < k → roadbookref01_And.l0 k l (i : Int) = some (if (l.drop i).any (fun s => s.f0 == 0 && s.f1 == 0) then (0, 0) else if (oddV l).2.2 then ((oddV l).1, (oddV l).2.1) else (0, 1)) := by
  intro d
  induction d with
  | zero =>
    intro i k hd hi hk
    obtain ⟨k, rfl⟩ : ∃ m, k = m + 1 := ⟨k - 1, by omega⟩
    have hi : i = l.length := by omega
    subst hi
    simp only [roadbookref01_And.l0]
    rw [if_neg (by omega), refOdd_eq l hm k (by omega), Option.bind_some, ref_three, List.drop_length]
    simp
  | succ d ih =>
    intro i k hd hi hk
    obtain ⟨k, rfl⟩ : ∃ m, k = m + 1 := ⟨k - 1, by omega⟩
    have hlt : i < l.length := by omega
    have e : wrap64 ((i : Int) + 1) = ((i + 1 : Nat) : Int) := by rw [wrap_id (by omega) (by omega)]; rfl
    simp only [roadbookref01_And.l0]
    rw [if_pos (by omega), if_pos (by omega), rd_at l i hlt, List.drop_eq_getElem_cons hlt, List.any_cons, e, ih (i + 1) k (by omega) (by omega) (by omega)]
    by_cases h0 : l[i].f0 = 0
    · by_cases h1 : l[i].f1 = 0
      · simp [h0, h1]
      · simp [h0, h1]
    · simp [h0]
theorem refAnd_eq (l : List V) (hm : l.length ≤ 1000000) (k : Nat) (hk : 2 * l.length + 1 < k) : roadbookref01_And.f k l = some (andV l) := by
  unfold roadbookref01_And.f andV threeV
  have := refAnd_loop l hm l.length 0 k (by omega) (by omega) (by omega)
  rw [List.drop_zero] at this
  exact this
theorem refTrue_eq (a b : Int) : roadbookref01_True.f a b = some (a == 0 && b != 0) := by
  unfold roadbookref01_True.f
  split <;> simp_all
theorem refOr_loop (l : List V) (hm : l.length ≤ 1000000) : ∀ (d i k : Nat), l.length - i = d → i ≤ l.length → d + l.length + 1 < k → roadbookref01_Or.l0 k l (i : Int) = some (if (l.drop i).any (fun s => s.f0 == 0 && s.f1 != 0) then (0, 1) else if (oddV l).2.2 then ((oddV l).1, (oddV l).2.1) else (0, 0)) := by
  intro d
  induction d with
  | zero =>
    intro i k hd hi hk
    obtain ⟨k, rfl⟩ : ∃ m, k = m + 1 := ⟨k - 1, by omega⟩
    have hi : i = l.length := by omega
    subst hi
    simp only [roadbookref01_Or.l0]
    rw [if_neg (by omega), refOdd_eq l hm k (by omega), Option.bind_some, ref_three, List.drop_length]
    simp
  | succ d ih =>
    intro i k hd hi hk
    obtain ⟨k, rfl⟩ : ∃ m, k = m + 1 := ⟨k - 1, by omega⟩
    have hlt : i < l.length := by omega
    have e : wrap64 ((i : Int) + 1) = ((i + 1 : Nat) : Int) := by rw [wrap_id (by omega) (by omega)]; rfl
    simp only [roadbookref01_Or.l0]
    rw [if_pos (by omega), if_pos (by omega), rd_at l i hlt, List.drop_eq_getElem_cons hlt, List.any_cons, e, ih (i + 1) k (by omega) (by omega) (by omega), refTrue_eq, Option.bind_some]
    cases h : (l[i].f0 == 0 && l[i].f1 != 0) <;> simp
theorem refOr_eq (l : List V) (hm : l.length ≤ 1000000) (k : Nat) (hk : 2 * l.length + 1 < k) : roadbookref01_Or.f k l = some (orV l) := by
  unfold roadbookref01_Or.f orV threeV
  have := refOr_loop l hm l.length 0 k (by omega) (by omega) (by omega)
  rw [List.drop_zero] at this
  exact this
theorem refNot_eq (a b : Int) : roadbookref01_Not.f a b = some (notV a b) := by
  unfold roadbookref01_Not.f notV roadbookref01_one.f
  rw [ref_fine_eq, Option.bind_some]
  simp only
  rcases vk_cases a b with ⟨h, _⟩ | ⟨h, _, _⟩ | h
  · simp only [h, vn_num h]
    by_cases hb : b = 0 <;> simp [hb]
  · simp only [h, vn_of a b (by omega)]
    simp
  · simp only [h, vn_of a b (by omega)]
    simp
end Go.Proofs.Ytdegbnjnbpjdfaa.V
