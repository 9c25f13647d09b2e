/- ValTurned over plain data: the other way round all values come to the same. Conditions: none. -/
import Derived.Test.YtdegbnjnbpjdfaaVSValTurned
import Derived.Test.YtdegbnjnbpjdfaaVSum
namespace Go.Proofs.Ytdegbnjnbpjdfaa.V
open Go.RowKit Go.Proofs.YtdegbnjnbpjdfaaW.PrintWords Go.Proofs.YtdegbnjnbpjdfaaW.PrintLast Go.Proofs.YtdegbnjnbpjdfaaW.PrintMore
theorem turned_loop (l : List V) (hl : l.length ≤ 1000) : ∀ (i k : Nat) (x : List V), i ≤ l.length → i < k → x = (l.drop i).reverse → roadbooklaw01_ValTurned.l0 k l x (i : Int) = roadbooklaw01_ValTurned.l0 1 l l.reverse 0 := by
  intro i
  induction i with
  | zero =>
    intro k x hi hk hx
    obtain ⟨k, rfl⟩ : ∃ m, k = m + 1 := ⟨k - 1, by omega⟩
    subst hx
    rw [List.drop_zero]
    simp only [roadbooklaw01_ValTurned.l0]
    rw [if_neg (by omega), if_neg (by omega)]
  | succ i ih =>
    intro k x hi hk hx
    obtain ⟨k, rfl⟩ : ∃ m, k = m + 1 := ⟨k - 1, by omega⟩
    have e : wrap64 (((i + 1 : Nat) : Int) - 1) = (i : Int) := by rw [wrap_id (by omega) (by omega)]; omega
    have hxl : x.length < 8796093022208 := by rw [hx]; simp; omega
    have step : roadbooklaw01_ValTurned.l0 (k + 1) l x ((i + 1 : Nat) : Int) = roadbooklaw01_ValTurned.l0 k l (x ++ [l[i]]) (i : Int) := by
      simp only [roadbooklaw01_ValTurned.l0]
      rw [if_pos (by omega), e, if_pos (by omega), if_pos (by omega), if_pos hxl, rd_at l i (by omega)]
    rw [step]
    exact ih k _ (by omega) (by omega) (by rw [hx, List.drop_eq_getElem_cons (show i < l.length by omega), List.reverse_cons])
theorem ValTurned_pure : ValTurned_Pure := by
  intro l hw
  have hin : ∀ s ∈ l, In s.f1 := fun s hs => wf_i64 (hw.2 s hs).2
  refine ⟨l.length + 3, ?_⟩
  unfold roadbooklaw01_ValTurned.f
  rw [awake01, Option.bind_some, if_pos rfl]
  by_cases h : (l.length : Int) > 1000
  · simp only [roadbooklaw01_ValTurned.j0]
    rw [if_pos (by simpa using h)]
  · simp only [roadbooklaw01_ValTurned.j0]
    rw [if_neg (by simpa using h)]
    rw [turned_loop l (by omega) l.length (l.length + 2) [] (by omega) (by omega) (by simp)]
    simp only [roadbooklaw01_ValTurned.l0]
    rw [if_neg (by omega)]
    unfold val_And.f val_Or.f
    simp only [Option.bind_some]
    rw [sum_eq (l := l) (by omega) hin, sum_eq (l := l.reverse) (by simp; omega) (fun s hs => hin s (List.mem_reverse.1 hs)), andV_reverse, orV_reverse, sumV_reverse]
    simp
end Go.Proofs.Ytdegbnjnbpjdfaa.V
