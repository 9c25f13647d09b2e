/- What values come to together: the sum of their numbers, in two words and plainly. -/
import Derived.Test.YtdegbnjnbpjdfaaVNum
import Derived.Test.YtdegbnjnbpjdfaaV3
namespace Go.Proofs.Ytdegbnjnbpjdfaa.V
open Go.RowKit Go.Proofs.YtdegbnjnbpjdfaaW.PrintWords Go.Proofs.YtdegbnjnbpjdfaaW.PrintLast Go.Proofs.YtdegbnjnbpjdfaaW.PrintMore
def tot : List V → Int
  | [] => 0
  | s :: l => (if s.f0 = 0 then s.f1 else 0) + tot l
def cnt : List V → Int
  | [] => 0
  | s :: l => (if s.f0 = 0 then 1 else 0) + cnt l
def sumV (l : List V) : Int × Int := if l.any (fun s => vk s.f0 s.f1 == 2) then (2, 0) else if cnt l = 0 then (1, 0) else numV (tot l)
theorem tot_cons (s : V) (l : List V) : tot (s :: l) = (if s.f0 = 0 then s.f1 else 0) + tot l := rfl
theorem cnt_cons (s : V) (l : List V) : cnt (s :: l) = (if s.f0 = 0 then 1 else 0) + cnt l := rfl
theorem cnt_nonneg : ∀ l : List V, 0 ≤ cnt l
  | [] => by simp [cnt]
  | s :: l => by have := cnt_nonneg l; rw [cnt_cons]; split <;> omega
theorem tot_append : ∀ l m : List V, tot (l ++ m) = tot l + tot m
  | [], m => by simp [tot]
  | s :: l, m => by
    show (if s.f0 = 0 then s.f1 else 0) + tot (l ++ m) = (if s.f0 = 0 then s.f1 else 0) + tot l + tot m
    rw [tot_append l m]; omega
theorem cnt_append : ∀ l m : List V, cnt (l ++ m) = cnt l + cnt m
  | [], m => by simp [cnt]
  | s :: l, m => by
    show (if s.f0 = 0 then 1 else 0) + cnt (l ++ m) = (if s.f0 = 0 then 1 else 0) + cnt l + cnt m
    rw [cnt_append l m]; omega
theorem tot_reverse : ∀ l : List V, tot l.reverse = tot l
  | [] => rfl
  | s :: l => by
    rw [List.reverse_cons, tot_append, tot_reverse l]
    show tot l + ((if s.f0 = 0 then s.f1 else 0) + 0) = (if s.f0 = 0 then s.f1 else 0) + tot l
    omega
theorem cnt_reverse : ∀ l : List V, cnt l.reverse = cnt l
  | [] => rfl
  | s :: l => by
    rw [List.reverse_cons, cnt_append, cnt_reverse l]
    show cnt l + ((if s.f0 = 0 then 1 else 0) + 0) = (if s.f0 = 0 then 1 else 0) + cnt l
    omega
theorem step_num (T n : Int) (hn : In n) : IntKind.u64.wrap ((T / 18446744073709551616) % 18446744073709551616 + IntKind.u64.wrap (addHi (T % 18446744073709551616) (IntKind.u64.wrap n) + IntKind.u64.wrap (n / 9223372036854775808))) = ((T + n) / 18446744073709551616) % 18446744073709551616 := by
  simp only [u64w]
  unfold addHi
  have key : (T + n) / 18446744073709551616 = T / 18446744073709551616 + (T % 18446744073709551616 + n % 18446744073709551616 + 0) / 18446744073709551616 + n / 9223372036854775808 := by unfold In at hn; omega
  rw [key]
  generalize T / 18446744073709551616 = H
  generalize (T % 18446744073709551616 + n % 18446744073709551616 + 0) / 18446744073709551616 = C
  generalize n / 9223372036854775808 = S
  omega
theorem step_lo (T n : Int) : addLo (T % 18446744073709551616) (IntKind.u64.wrap n) = (T + n) % 18446744073709551616 := by
  simp only [u64w]
  unfold addLo
  omega
theorem fold_sum : ∀ (l : List V) (T c : Int), (∀ s ∈ l, In s.f1) → l.foldl sumStep ((T / 18446744073709551616) % 18446744073709551616, T % 18446744073709551616, c) = (((T + tot l) / 18446744073709551616) % 18446744073709551616, (T + tot l) % 18446744073709551616, c + cnt l)
  | [], T, c, _ => by simp [tot, cnt]
  | s :: l, T, c, h => by
    rw [List.foldl_cons]
    have hs := h s (by simp)
    have hl : ∀ x ∈ l, In x.f1 := fun x hx => h x (by simp [hx])
    by_cases h0 : s.f0 = 0
    · have e : sumStep ((T / 18446744073709551616) % 18446744073709551616, T % 18446744073709551616, c) s = (((T + s.f1) / 18446744073709551616) % 18446744073709551616, (T + s.f1) % 18446744073709551616, c + 1) := by
        unfold sumStep
        rw [if_pos h0]
        simp only [step_num T s.f1 hs, step_lo]
      rw [e, fold_sum l (T + s.f1) (c + 1) hl]
      rw [tot_cons, cnt_cons, if_pos h0, if_pos h0, Int.add_assoc, Int.add_assoc]
    · have e : sumStep ((T / 18446744073709551616) % 18446744073709551616, T % 18446744073709551616, c) s = ((T / 18446744073709551616) % 18446744073709551616, T % 18446744073709551616, c) := by
        unfold sumStep
        rw [if_neg h0]
      rw [e, fold_sum l T c hl]
      rw [tot_cons, cnt_cons, if_neg h0, if_neg h0, Int.zero_add, Int.zero_add]
theorem tot_bound : ∀ l : List V, (∀ s ∈ l, In s.f1) → -9223372036854775808 * l.length ≤ tot l ∧ tot l ≤ 9223372036854775808 * l.length
  | [], _ => by simp [tot]
  | s :: l, h => by
    have hs := h s (by simp)
    have := tot_bound l (fun x hx => h x (by simp [hx]))
    unfold In at hs
    rw [tot_cons, List.length_cons]
    split <;> omega
theorem end_num (T : Int) (h : -9223372036854775808 * 1099511627776 ≤ T ∧ T ≤ 9223372036854775808 * 1099511627776) : (T / 18446744073709551616) % 18446744073709551616 = IntKind.u64.wrap (wrap64 (T % 18446744073709551616) / 9223372036854775808) ↔ In T := by
  simp only [u64w]
  have hT : T = 18446744073709551616 * (T / 18446744073709551616) + T % 18446744073709551616 := by omega
  have hl : 0 ≤ T % 18446744073709551616 ∧ T % 18446744073709551616 < 18446744073709551616 := by omega
  have hH : -1099511627776 ≤ T / 18446744073709551616 ∧ T / 18446744073709551616 ≤ 1099511627776 := by omega
  generalize T / 18446744073709551616 = H at *
  generalize T % 18446744073709551616 = lo at *
  unfold In
  by_cases hc : lo < 9223372036854775808
  · have e : wrap64 lo / 9223372036854775808 = 0 := by rw [wrap_id (by omega) (by omega)]; omega
    rw [e]; omega
  · have e : wrap64 lo / 9223372036854775808 = -1 := by
      have : wrap64 lo = lo - 18446744073709551616 := by unfold wrap64; omega
      rw [this]; omega
    rw [e]; omega
theorem end_lo (T : Int) (h : In T) : wrap64 (T % 18446744073709551616) = T := by
  unfold wrap64 In at *
  omega
theorem sum_eq {l : List V} (hl : l.length ≤ 1099511627776) (h : ∀ s ∈ l, In s.f1) : val_Sum.f l = some (sumV l) := by
  unfold val_Sum.f sumV
  have h0 : sumTo l = ((tot l / 18446744073709551616) % 18446744073709551616, tot l % 18446744073709551616, cnt l) := by
    have := fold_sum l 0 0 h
    simp only [Int.zero_add] at this
    exact this
  rw [h0]
  unfold sumEnd
  simp only
  have hb := tot_bound l h
  split
  · rfl
  · split
    · rfl
    · unfold numV
      by_cases hi : In (tot l)
      · rw [if_pos ((end_num (tot l) (by omega)).2 hi), if_pos hi, end_lo _ hi]
      · rw [if_neg (fun e => hi ((end_num (tot l) (by omega)).1 e)), if_neg hi]
theorem sumV_reverse (l : List V) : sumV l.reverse = sumV l := by
  unfold sumV
  rw [List.any_reverse, tot_reverse, cnt_reverse]
theorem oddV_reverse (l : List V) : oddV l.reverse = oddV l := by
  unfold oddV; rw [List.any_reverse, List.any_reverse]
theorem andV_reverse (l : List V) : andV l.reverse = andV l := by
  unfold andV threeV; rw [List.any_reverse, oddV_reverse]
theorem orV_reverse (l : List V) : orV l.reverse = orV l := by
  unfold orV threeV; rw [List.any_reverse, oddV_reverse]
end Go.Proofs.Ytdegbnjnbpjdfaa.V
