/- The reference's values: what its functions come to, said by kinds and numbers. -/
import Derived.Test.YtdegbnjnbpjdfaaULess
import Derived.Test.YtdegbnjnbpjdfaaU3
namespace Go.Proofs.Ytdegbnjnbpjdfaa.U
open Go.RowKit Go.Proofs.YtdegbnjnbpjdfaaW.PrintWords Go.Proofs.YtdegbnjnbpjdfaaW.PrintLast Go.Proofs.YtdegbnjnbpjdfaaW.PrintMore
theorem ref_May_eq (a b : Int) : roadbookref01_May.f a b = some (decide (0 ≤ a ∧ a < 3 ∧ (a = 0 ∨ b = 0))) := by
  unfold roadbookref01_May.f
  by_cases h0 : a = 0
  · simp [h0]
  · by_cases h1 : a = 1
    · by_cases hb : b = 0 <;> simp [h1, hb]
    · by_cases h2 : a = 2
      · by_cases hb : b = 0 <;> simp [h2, hb]
      · rw [if_neg h0, if_neg h1, if_neg h2]
        congr 1
        symm
        rw [decide_eq_false_iff_not]
        omega
theorem ref_fine_eq (a b : Int) : roadbookref01_fine.f a b = some (vk a b, vn a b) := by
  unfold roadbookref01_fine.f vk vn
  rw [ref_May_eq, Option.bind_some]
  by_cases h : 0 ≤ a ∧ a < 3 ∧ (a = 0 ∨ b = 0)
  · rw [if_pos (by simpa using h), if_pos h, if_pos h]
  · rw [if_neg (by simpa using h), if_neg h, if_neg h]
theorem vn_of (a b : Int) (h : vk a b ≠ 0) : vn a b = 0 := by
  unfold vk at h
  unfold vn
  split
  · rename_i hc
    rw [if_pos hc] at h
    omega
  · rfl
theorem vn_num {a b : Int} (h : vk a b = 0) : vn a b = b := by
  have ha := (vk_eq0 a b).1 h
  unfold vn
  rw [if_pos (by omega)]
def refOddV (l : List V) : Int × Int × Bool := if l.any (fun s => vk s.f0 s.f1 == 2) then (2, 0, true) else (1, 0, l.any (fun s => vk s.f0 s.f1 == 1))
theorem refOdd_loop (l : List V) (hm : l.length ≤ 1000000) : ∀ (d i k : Nat) (x : Bool), l.length - i = d → i ≤ l.length → d < k → roadbookref01_odd.l0 k l x (i : Int) = some (if (l.drop i).any (fun s => vk s.f0 s.f1 == 2) then (2, 0, true) else (1, 0, x || (l.drop i).any (fun s => vk s.f0 s.f1 == 1))) := by
  intro d
  induction d with
  | zero =>
    intro i k x hd hi hk
    obtain ⟨k, rfl⟩ : ∃ m, k = m + 1 := ⟨k - 1, by omega⟩
    have hi : i = l.length := by omega
    subst hi
    simp only [roadbookref01_odd.l0]
    rw [if_neg (by omega)]
    simp
  | succ d ih =>
    intro i k x hd hi hk
    obtain ⟨k, rfl⟩ : ∃ m, k = m + 1 := ⟨k - 1, by omega⟩
    have hlt : i < l.length := by omega
    have e : wrap64 ((i : Int) + 1) = ((i + 1 : Nat) : Int) := by rw [wrap_id (by omega) (by omega)]; rfl
    simp only [roadbookref01_odd.l0]
    rw [if_pos (by omega), if_pos (by omega), rd_at l i hlt, ref_fine_eq, Option.bind_some, List.drop_eq_getElem_cons hlt, List.any_cons, List.any_cons, e]
    simp only
    by_cases h2 : vk l[i].f0 l[i].f1 = 2
    · rw [if_pos h2]
      simp [h2, vn_of _ _ (show vk l[i].f0 l[i].f1 ≠ 0 by omega)]
    · rw [if_neg h2, ih (i + 1) k _ (by omega) (by omega) (by omega), ih (i + 1) k _ (by omega) (by omega) (by omega)]
      have h2' : (vk l[i].f0 l[i].f1 == 2) = false := by simpa using h2
      rw [h2', Bool.false_or]
      cases x <;> simp
theorem refOdd_eq (l : List V) (hm : l.length ≤ 1000000) (k : Nat) (hk : l.length < k) : roadbookref01_odd.f k l = some (refOddV l) := by
  unfold roadbookref01_odd.f refOddV
  have := refOdd_loop l hm l.length 0 k false (by omega) (by omega) hk
  rw [List.drop_zero] at this
  simpa using this
theorem refOdd_flag (l : List V) : (refOddV l).2.2 = (oddV l).2.2 := by
  unfold refOddV oddV
  split
  · rfl
  · split
    · assumption
    · rename_i h; simpa using h
theorem refOdd_val (l : List V) (h : (oddV l).2.2 = true) : ((refOddV l).1, (refOddV l).2.1) = ((oddV l).1, (oddV l).2.1) := by
  unfold refOddV
  unfold oddV at h ⊢
  split
  · rfl
  · rename_i h2
    rw [if_neg h2] at h
    split
    · rfl
    · rename_i h3
      rw [if_neg h3] at h
      cases h
end Go.Proofs.Ytdegbnjnbpjdfaa.U
