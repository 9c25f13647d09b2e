import Derived.Test.YtdegbnjnbpjdfaaVSValMorgan
import Derived.Test.YtdegbnjnbpjdfaaVLib
namespace Go.Proofs.Ytdegbnjnbpjdfaa.V
open Go.RowKit Go.Proofs.YtdegbnjnbpjdfaaW.PrintWords Go.Proofs.YtdegbnjnbpjdfaaW.PrintLast Go.Proofs.YtdegbnjnbpjdfaaW.PrintMore
theorem morgan_loop (l : List V) (hl : l.length ≤ 1000) : ∀ (d i k : Nat) (x : List V), l.length - i = d → i ≤ l.length → d < k → x.length = i → roadbooklaw01_ValMorgan.l0 k l x (i : Int) = roadbooklaw01_ValMorgan.l0 1 l (x ++ notL (l.drop i)) (l.length : Int) := by
  intro d
  induction d with
  | zero =>
    intro i k x hd hi hk hx
    obtain ⟨k, rfl⟩ : ∃ m, k = m + 1 := ⟨k - 1, by omega⟩
    have hi : i = l.length := by omega
    subst hi
    rw [List.drop_length]
    unfold notL
    rw [List.map_nil, List.append_nil]
    simp only [roadbooklaw01_ValMorgan.l0]
    rw [if_neg (by omega), if_neg (by omega)]
  | succ d ih =>
    intro i k x hd hi hk hx
    obtain ⟨k, rfl⟩ : ∃ m, k = m + 1 := ⟨k - 1, by omega⟩
    have hlt : i < l.length := by omega
    have e : wrap64 ((i : Int) + 1) = ((i + 1 : Nat) : Int) := by rw [wrap_id (by omega) (by omega)]; rfl
    have step : roadbooklaw01_ValMorgan.l0 (k + 1) l x (i : Int) = roadbooklaw01_ValMorgan.l0 k l (x ++ [⟨(notV l[i].f0 l[i].f1).1, (notV l[i].f0 l[i].f1).2⟩]) ((i + 1 : Nat) : Int) := by
      simp only [roadbooklaw01_ValMorgan.l0]
      rw [if_pos (by omega), if_pos (by omega), rd_at l i hlt, val_Not_eq, Option.bind_some, if_pos (by omega), e]
    rw [step, ih (i + 1) k _ (by omega) (by omega) (by omega) (by simp [hx])]
    congr 1
    rw [List.append_assoc, List.drop_eq_getElem_cons hlt]
    rfl
theorem ValMorgan_pure : ValMorgan_Pure := by
  intro l hl
  refine ⟨l.length + 3, ?_⟩
  unfold roadbooklaw01_ValMorgan.f
  rw [awake01, Option.bind_some, if_pos rfl]
  by_cases h : (l.length : Int) > 1000
  · simp only [roadbooklaw01_ValMorgan.j0]
    rw [if_pos (by simpa using h)]
  · simp only [roadbooklaw01_ValMorgan.j0]
    rw [if_neg (by simpa using h)]
    have := morgan_loop l (by omega) l.length 0 (l.length + 2) [] (by omega) (by omega) (by omega) rfl
    rw [show ((0 : Nat) : Int) = 0 from rfl] at this
    rw [this, List.drop_zero, List.nil_append]
    simp only [roadbooklaw01_ValMorgan.l0]
    rw [if_neg (by omega)]
    unfold val_And.f val_Or.f
    simp only [Option.bind_some, val_Not_eq]
    rw [morgan1, morgan2]
    simp
end Go.Proofs.Ytdegbnjnbpjdfaa.V
