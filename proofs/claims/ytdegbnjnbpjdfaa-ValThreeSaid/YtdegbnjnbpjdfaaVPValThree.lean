/- ValThree over plain data: any values come to what the document says, all of them, one of them, together; any one turned round, and true, or not. Conditions: none. -/
import Derived.Test.YtdegbnjnbpjdfaaVSValThree
import Derived.Test.YtdegbnjnbpjdfaaVRef
namespace Go.Proofs.Ytdegbnjnbpjdfaa.V
open Go.RowKit Go.Proofs.YtdegbnjnbpjdfaaW.PrintWords Go.Proofs.YtdegbnjnbpjdfaaW.PrintLast Go.Proofs.YtdegbnjnbpjdfaaW.PrintMore
theorem tmod_of_neg (n : Int) (h : n < 0) : Int.tmod n 4294967296 = -((-n) % 4294967296) := by
  have : Int.tmod (-(-n)) 4294967296 = -Int.tmod (-n) 4294967296 := Int.neg_tmod _ _
  rw [Int.neg_neg] at this
  rw [this, Int.tmod_eq_emod_of_nonneg (by omega)]
theorem tmod_neg (n : Int) : Int.tmod n 4294967296 < 0 → Int.tmod n 4294967296 + 4294967296 = n % 4294967296 := by
  intro h
  by_cases hn : 0 ≤ n
  · rw [Int.tmod_eq_emod_of_nonneg hn] at h; omega
  · rw [tmod_of_neg n (by omega)] at h ⊢; omega
theorem tmod_pos (n : Int) : ¬ Int.tmod n 4294967296 < 0 → Int.tmod n 4294967296 = n % 4294967296 := by
  intro h
  by_cases hn : 0 ≤ n
  · exact Int.tmod_eq_emod_of_nonneg hn
  · rw [tmod_of_neg n (by omega)] at h ⊢; omega
theorem tdiv_part (n : Int) : Int.tdiv (n - n % 4294967296) 4294967296 = n / 4294967296 := by
  have : n - n % 4294967296 = n / 4294967296 * 4294967296 := by omega
  rw [this, Int.mul_tdiv_cancel _ (by omega)]
def refEnd (x3 x4 x5 : Int) : Int × Int := if x5 = 0 then (1, 0) else if x3 + x4 / 4294967296 > 2147483647 then (2, 0) else if x3 + x4 / 4294967296 < -2147483648 then (2, 0) else (0, (x3 + x4 / 4294967296) * 4294967296 + x4 % 4294967296)
theorem refSum_loop (l : List V) (hm : l.length ≤ 1000) (hin : ∀ s ∈ l, In s.f1) : ∀ (d i k : Nat) (x3 x4 x5 : Int), l.length - i = d → i ≤ l.length → d < k → -2147483648 * i ≤ x3 → x3 ≤ 2147483648 * i → 0 ≤ x4 → x4 ≤ 4294967296 * i → 0 ≤ x5 → x5 ≤ i →
    roadbookref01_Sum.l0 k l x3 x4 x5 (i : Int) = some (if (l.drop i).any (fun s => vk s.f0 s.f1 == 2) then (2, 0) else if x5 + cnt (l.drop i) = 0 then (1, 0) else numV (x3 * 4294967296 + x4 + tot (l.drop i))) := by
  intro d
  induction d with
  | zero =>
    intro i k x3 x4 x5 hd hi hk h1 h2 h3 h4 h5 h6
    obtain ⟨k, rfl⟩ : ∃ m, k = m + 1 := ⟨k - 1, by omega⟩
    have hi : i = l.length := by omega
    subst hi
    simp only [roadbookref01_Sum.l0]
    rw [if_neg (by omega), List.drop_length]
    have e1 : wrap64 (Int.tdiv x4 4294967296) = x4 / 4294967296 := by rw [Int.tdiv_eq_ediv_of_nonneg h3]; exact wrap_id (by omega) (by omega)
    have e2 : Int.tmod x4 4294967296 = x4 % 4294967296 := Int.tmod_eq_emod_of_nonneg h3
    have e3 : wrap64 (x3 + x4 / 4294967296) = x3 + x4 / 4294967296 := wrap_id (by omega) (by omega)
    rw [e1, e2, e3]
    simp only [List.any_nil, Bool.false_eq_true, if_false, cnt, tot, Int.add_zero]
    by_cases h0 : x5 = 0
    · rw [if_pos h0, if_pos h0]
    · rw [if_neg h0, if_neg h0]
      unfold numV
      by_cases ha : x3 + x4 / 4294967296 > 2147483647
      · rw [if_pos ha, if_neg (by unfold In; omega)]
      · rw [if_neg ha]
        by_cases hb : x3 + x4 / 4294967296 < -2147483648
        · rw [if_pos hb, if_neg (by unfold In; omega)]
        · rw [if_neg hb, if_pos (by unfold In; omega)]
          have e4 : wrap64 ((x3 + x4 / 4294967296) * 4294967296) = (x3 + x4 / 4294967296) * 4294967296 := wrap_id (by omega) (by omega)
          rw [e4, wrap_id (by omega) (by omega)]
          congr 2
          omega
  | succ d ih =>
    intro i k x3 x4 x5 hd hi hk h1 h2 h3 h4 h5 h6
    obtain ⟨k, rfl⟩ : ∃ m, k = m + 1 := ⟨k - 1, by omega⟩
    have hlt : i < l.length := by omega
    have e : wrap64 ((i : Int) + 1) = ((i + 1 : Nat) : Int) := by rw [wrap_id (by omega) (by omega)]; rfl
    have hn := hin l[i] (List.getElem_mem hlt)
    simp only [roadbookref01_Sum.l0]
    rw [if_pos (by omega), if_pos (by omega), rd_at l i hlt, ref_fine_eq, Option.bind_some, List.drop_eq_getElem_cons hlt, List.any_cons, cnt_cons, tot_cons, e]
    simp only
    by_cases hk2 : vk l[i].f0 l[i].f1 = 2
    · rw [if_pos hk2]
      simp [hk2, vn_of _ _ (show vk l[i].f0 l[i].f1 ≠ 0 by omega)]
    · have hk2' : (vk l[i].f0 l[i].f1 == 2) = false := by simpa using hk2
      rw [if_neg hk2, hk2', Bool.false_or]
      by_cases hk0 : vk l[i].f0 l[i].f1 = 0
      · have hf0 := (vk_eq0 _ _).1 hk0
        rw [if_pos hk0, vn_num hk0, if_pos hf0, if_pos hf0]
        generalize l[i].f1 = n at hn
        unfold In at hn
        have e5 : wrap64 (x5 + 1) = x5 + 1 := wrap_id (by omega) (by omega)
        have fin : ∀ p, p = n % 4294967296 → roadbookref01_Sum.l0 k l (wrap64 (x3 + wrap64 (Int.tdiv (wrap64 (n - p)) 4294967296))) (wrap64 (x4 + p)) (wrap64 (x5 + 1)) ((i + 1 : Nat) : Int) = some (if (l.drop (i + 1)).any (fun s => vk s.f0 s.f1 == 2) then (2, 0) else if x5 + (1 + cnt (l.drop (i + 1))) = 0 then (1, 0) else numV (x3 * 4294967296 + x4 + (n + tot (l.drop (i + 1))))) := by
          intro p hp
          have w1 : wrap64 (n - p) = n - n % 4294967296 := by rw [hp]; exact wrap_id (by omega) (by omega)
          have w2 : wrap64 (n / 4294967296) = n / 4294967296 := wrap_id (by omega) (by omega)
          have w3 : wrap64 (x3 + n / 4294967296) = x3 + n / 4294967296 := wrap_id (by omega) (by omega)
          have w4 : wrap64 (x4 + p) = x4 + n % 4294967296 := by rw [hp]; exact wrap_id (by omega) (by omega)
          rw [w1, tdiv_part, w2, w3, w4, e5, ih (i + 1) k _ _ _ (by omega) (by omega) (by omega) (by omega) (by omega) (by omega) (by omega) (by omega) (by omega)]
          have a1 : x5 + 1 + cnt (l.drop (i + 1)) = x5 + (1 + cnt (l.drop (i + 1))) := by omega
          have a2 : (x3 + n / 4294967296) * 4294967296 + (x4 + n % 4294967296) + tot (l.drop (i + 1)) = x3 * 4294967296 + x4 + (n + tot (l.drop (i + 1))) := by omega
          rw [a1, a2]
        split
        · rename_i hneg
          have hp := tmod_neg n hneg
          have : wrap64 (Int.tmod n 4294967296 + 4294967296) = n % 4294967296 := by rw [hp]; exact wrap_id (by omega) (by omega)
          exact fin _ this
        · rename_i hneg
          exact fin _ (tmod_pos n hneg)
      · have hf0 : ¬ l[i].f0 = 0 := fun h => hk0 ((vk_eq0 _ _).2 h)
        rw [if_neg hk0, if_neg hf0, if_neg hf0, ih (i + 1) k _ _ _ (by omega) (by omega) (by omega) (by omega) (by omega) (by omega) (by omega) (by omega) (by omega), Int.zero_add, Int.zero_add]
theorem refSum_eq (l : List V) (hm : l.length ≤ 1000) (hin : ∀ s ∈ l, In s.f1) (k : Nat) (hk : l.length < k) : roadbookref01_Sum.f k l = some (sumV l) := by
  unfold roadbookref01_Sum.f sumV
  have := refSum_loop l hm hin l.length 0 k 0 0 0 (by omega) (by omega) (by omega) (by omega) (by omega) (by omega) (by omega) (by omega) (by omega)
  rw [List.drop_zero] at this
  simp only [Int.zero_mul, Int.zero_add] at this
  exact this
theorem ValThree_pure : ValThree_Pure := by
  intro l v hw _
  have hin : ∀ s ∈ l, In s.f1 := fun s hs => wf_i64 (hw.2 s hs).2
  refine ⟨2 * l.length + 3, ?_⟩
  unfold roadbooklaw01_ValThree.f
  rw [awake01, Option.bind_some, if_pos rfl]
  by_cases h : (l.length : Int) > 1000
  · simp only [roadbooklaw01_ValThree.j0]
    rw [if_pos (by simpa using h)]
  · simp only [roadbooklaw01_ValThree.j0]
    rw [if_neg (by simpa using h)]
    unfold val_And.f val_Or.f
    simp only [Option.bind_some]
    rw [refAnd_eq l (by omega) _ (by omega), refOr_eq l (by omega) _ (by omega), refSum_eq l (by omega) hin _ (by omega), sum_eq (l := l) (by omega) hin, refNot_eq, val_Not_eq, refTrue_eq]
    have ht : val_True.f v.f0 v.f1 = some (v.f0 == 0 && v.f1 != 0) := by unfold val_True.f; split <;> simp_all
    rw [ht]
    simp
end Go.Proofs.Ytdegbnjnbpjdfaa.V
