/- ValSum over plain numbers: where nothing is too great all together are what they are one by one. Conditions: none. -/
import Derived.Test.YtdegbnjnbpjdfaaVSValSum
import Derived.Test.YtdegbnjnbpjdfaaVSum
namespace Go.Proofs.Ytdegbnjnbpjdfaa.V
open Go.RowKit Go.Proofs.YtdegbnjnbpjdfaaW.PrintWords Go.Proofs.YtdegbnjnbpjdfaaW.PrintLast Go.Proofs.YtdegbnjnbpjdfaaW.PrintMore
def vals (l : List Int) : List V := l.map fun n => ⟨0, n⟩
theorem twoN (a b : Int) (n : Int × Int) : twoV (0, a) (0, b) n = n := by
  unfold twoV
  simp [vk_zero]
theorem vals_bad (l : List Int) : (vals l).any (fun s => vk s.f0 s.f1 == 2) = false := by
  unfold vals
  rw [List.any_map, List.any_eq_false]
  intro x _
  simp [vk_zero]
theorem vals_cnt : ∀ l : List Int, cnt (vals l) = l.length
  | [] => rfl
  | n :: l => by
    have := vals_cnt l
    show (if (0 : Int) = 0 then (1 : Int) else 0) + cnt (vals l) = _
    rw [this, if_pos rfl, List.length_cons]; omega
def small (n : Int) : Prop := -1125899906842624 ≤ n ∧ n ≤ 1125899906842624
instance (n : Int) : Decidable (small n) := by unfold small; infer_instance
theorem vals_tot : ∀ l : List Int, (∀ n ∈ l, small n) → -1125899906842624 * l.length ≤ tot (vals l) ∧ tot (vals l) ≤ 1125899906842624 * l.length
  | [], _ => by simp [vals, tot]
  | n :: l, h => by
    have := vals_tot l (fun x hx => h x (by simp [hx]))
    have hn := h n (by simp)
    unfold small at hn
    have e : tot (vals (n :: l)) = n + tot (vals l) := rfl
    rw [e, List.length_cons]
    omega
theorem vals_snoc (l : List Int) (n : Int) : vals (l ++ [n]) = vals l ++ [⟨0, n⟩] := by simp [vals]
theorem tot_snoc (l : List Int) (n : Int) : tot (vals (l ++ [n])) = tot (vals l) + n := by
  rw [vals_snoc, tot_append]
  show tot (vals l) + (n + 0) = _
  omega
theorem sum_vals {l : List Int} (hl : l.length ≤ 100) (h : ∀ n ∈ l, small n) (h0 : l ≠ []) : val_Sum.f (vals l) = some (0, tot (vals l)) := by
  have hb := vals_tot l h
  rw [sum_eq (by simp [vals]; omega) (fun s hs => by
    obtain ⟨n, hn, rfl⟩ := List.mem_map.1 hs
    have := h n hn
    unfold small at this; unfold In; simp only; omega)]
  unfold sumV numV
  rw [vals_bad, if_neg (by decide), vals_cnt, if_neg (by have := List.length_pos_iff.2 h0; omega), if_pos (by unfold In; omega)]
theorem sum_loop (l : List Int) (hl : l.length ≤ 100) : ∀ (d i k : Nat), l.length - i = d → i ≤ l.length → 2 * d < k → (∀ n ∈ l.take i, small n) → roadbooklaw01_ValSum.l0 k l (vals (l.take i)) (i : Int) 0 (tot (vals (l.take i))) = some true := by
  intro d
  induction d with
  | zero =>
    intro i k hd hi hk hs
    obtain ⟨k, rfl⟩ : ∃ m, k = m + 1 := ⟨k - 1, by omega⟩
    have hi : i = l.length := by omega
    subst hi
    rw [List.take_length] at hs ⊢
    simp only [roadbooklaw01_ValSum.l0]
    rw [if_neg (by omega)]
    split
    · rfl
    · rename_i h0
      have hne : l ≠ [] := fun e => h0 (by simp [e])
      rw [sum_vals hl hs hne, Option.bind_some, if_pos (by simp), if_pos (by simp [vals]; have := List.length_pos_iff.2 hne; omega)]
      match l, hne with
      | n :: l, _ =>
        have hn : small n := hs n (by simp)
        have e : ([⟨(rd_T25 (vals (n :: l)) 0).f0, (rd_T25 (vals (n :: l)) 0).f1⟩] : List V) = vals [n] := rfl
        rw [e, sum_vals (by simp) (fun x hx => by rw [List.mem_singleton.1 hx]; exact hn) (by simp), Option.bind_some]
        show some ((0 : Int) == 0 && ((n + 0) == n)) = some true
        simp
  | succ d ih =>
    intro i k hd hi hk hs
    obtain ⟨k, rfl⟩ : ∃ m, k = m + 1 + 1 := ⟨k - 2, by omega⟩
    have hlt : i < l.length := by omega
    have hrd : rd l (i : Int) = l[i] := by
      unfold rd
      rw [Int.toNat_natCast, List.getD_eq_getElem?_getD, List.getElem?_eq_getElem hlt]; rfl
    have e : wrap64 ((i : Int) + 1) = ((i + 1 : Nat) : Int) := by rw [wrap_id (by omega) (by omega)]; rfl
    have hb := vals_tot (l.take i) hs
    have hlen : (l.take i).length = i := by rw [List.length_take]; omega
    simp only [roadbooklaw01_ValSum.l0]
    rw [if_pos (by omega), if_pos (by omega), hrd]
    have hj : ∀ b, b = decide (¬ small l[i]) → roadbooklaw01_ValSum.j2 (k + 1) l (vals (l.take i)) (i : Int) b 0 (tot (vals (l.take i))) = some true := by
      intro b hbq
      simp only [roadbooklaw01_ValSum.j2]
      split
      · rfl
      · rename_i hf
        have hsm : small l[i] := by
          apply Decidable.byContradiction
          intro hc
          exact hf (by rw [hbq]; exact decide_eq_true hc)
        have hsm' := hsm
        unfold small at hsm'
        rw [if_pos (by omega), if_pos (by omega), hrd]
        unfold val_Of.f
        rw [Option.bind_some, if_pos (by simp [vals]; omega), Option.bind_some, add_eq (by unfold In; omega) (by unfold In; omega), twoN, Option.bind_some]
        have hnum : numV (tot (vals (l.take i)) + l[i]) = (0, tot (vals (l.take (i + 1)))) := by
          rw [List.take_succ_eq_append_getElem hlt, tot_snoc]
          unfold numV
          rw [if_pos (by unfold In; omega)]
        rw [hnum, e]
        have hv : vals (l.take i) ++ [⟨0, l[i]⟩] = vals (l.take (i + 1)) := by rw [List.take_succ_eq_append_getElem hlt, vals_snoc]
        rw [hv]
        refine ih (i + 1) k (by omega) (by omega) (by omega) ?_
        rw [List.take_succ_eq_append_getElem hlt]
        intro n hn
        rcases List.mem_append.1 hn with hn | hn
        · exact hs n hn
        · rw [List.mem_singleton.1 hn]; exact hsm
    split
    · rename_i hgt
      exact hj true (by unfold small; rw [eq_comm, decide_eq_true_eq]; omega)
    · rename_i hgt
      exact hj _ (by rw [decide_eq_decide]; unfold small; omega)

theorem ValSum_pure : ValSum_Pure := by
  intro l hw
  refine ⟨2 * l.length + 3, ?_⟩
  unfold roadbooklaw01_ValSum.f
  rw [awake01, Option.bind_some, if_pos rfl]
  by_cases h : (l.length : Int) > 100
  · simp only [roadbooklaw01_ValSum.j0]
    rw [if_pos (by simpa using h)]
  · simp only [roadbooklaw01_ValSum.j0]
    rw [if_neg (by simpa using h)]
    unfold val_Of.f
    rw [Option.bind_some]
    exact sum_loop l (by omega) l.length 0 (2 * l.length + 2) (by omega) (by omega) (by omega) (by simp)
end Go.Proofs.Ytdegbnjnbpjdfaa.V
