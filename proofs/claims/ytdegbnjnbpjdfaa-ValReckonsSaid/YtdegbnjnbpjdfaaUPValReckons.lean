/- ValReckons over plain data: any two values may be, or not, are less, or not, and come to what the document says. Conditions: none. -/
import Derived.Test.YtdegbnjnbpjdfaaUSValReckons
import Derived.Test.YtdegbnjnbpjdfaaURefA
import Derived.Test.YtdegbnjnbpjdfaaU4
import Derived.Test.YtdegbnjnbpjdfaaU5
import Derived.Test.YtdegbnjnbpjdfaaU3
namespace Go.Proofs.Ytdegbnjnbpjdfaa.U
set_option linter.unusedVariables false
open Go.RowKit Go.Proofs.YtdegbnjnbpjdfaaW.PrintWords Go.Proofs.YtdegbnjnbpjdfaaW.PrintLast Go.Proofs.YtdegbnjnbpjdfaaW.PrintMore
theorem refLess_eq (a0 a1 b0 b1 : Int) : roadbookref01_Less.f a0 a1 b0 b1 = some (lessV a0 a1 b0 b1) := by
  unfold roadbookref01_Less.f
  rw [ref_fine_eq, Option.bind_some, ref_fine_eq, Option.bind_some]
  simp only
  split
  · rename_i h
    congr 1; symm; rw [lessV_iff]; exact .inl h
  · rename_i h
    split
    · rename_i h1
      split
      · rename_i h2
        congr 1
        unfold lessV
        rw [h1, h2]
        simp
      · rename_i h2
        congr 1; symm; rw [← Bool.not_eq_true, lessV_iff]; omega
    · rename_i h1
      congr 1; symm; rw [← Bool.not_eq_true, lessV_iff]
      intro hc
      rcases hc with hc | ⟨hc, hd⟩
      · omega
      · rw [vn_of _ _ h1, vn_of _ _ (by omega)] at hd; omega
theorem ref_two (k : Nat) (a0 a1 b0 b1 : Int) (r : Option (Int × Int)) (hk : 2 < k) : ((roadbookref01_two.f a0 a1 b0 b1).bind fun t => (roadbookref01_odd.f k t).bind fun bt => if bt.2.2 = true then some (bt.1, bt.2.1) else r) = if (oddV [⟨a0, a1⟩, ⟨b0, b1⟩]).2.2 = true then some ((oddV [⟨a0, a1⟩, ⟨b0, b1⟩]).1, (oddV [⟨a0, a1⟩, ⟨b0, b1⟩]).2.1) else r := by
  unfold roadbookref01_two.f
  rw [Option.bind_some, refOdd_eq _ (by simp) k (by simpa using hk), Option.bind_some, refOdd_flag]
  split
  · rename_i h; rw [refOdd_val _ h]
  · rfl
theorem odd_or (a0 a1 b0 b1 : Int) (n : Int × Int) : (if (oddV [⟨a0, a1⟩, ⟨b0, b1⟩]).2.2 = true then some ((oddV [⟨a0, a1⟩, ⟨b0, b1⟩]).1, (oddV [⟨a0, a1⟩, ⟨b0, b1⟩]).2.1) else some n) = some (twoV (a0, a1) (b0, b1) n) := by
  rw [odd_two]
  unfold twoV
  split
  · rfl
  · split <;> rfl
theorem ref_two' (k : Nat) (a0 a1 b0 b1 : Int) (r : Option (Int × Int)) (hk : 2 < k) : ((roadbookref01_odd.f k [⟨a0, a1⟩, ⟨b0, b1⟩]).bind fun bt => if bt.2.2 = true then some (bt.1, bt.2.1) else r) = if (oddV [⟨a0, a1⟩, ⟨b0, b1⟩]).2.2 = true then some ((oddV [⟨a0, a1⟩, ⟨b0, b1⟩]).1, (oddV [⟨a0, a1⟩, ⟨b0, b1⟩]).2.1) else r :=
  ref_two k a0 a1 b0 b1 r hk
theorem refAdd_eq (k : Nat) (hk : 2 < k) {a0 a1 b0 b1 : Int} (ha : In a1) (hb : In b1) : roadbookref01_Add.f k a0 a1 b0 b1 = some (twoV (a0, a1) (b0, b1) (numV (a1 + b1))) := by
  unfold roadbookref01_Add.f
  rw [ref_two' _ _ _ _ _ _ hk, odd_or]
  congr 2
  unfold In at ha hb
  have w1 : 0 < b1 → wrap64 (9223372036854775807 - b1) = 9223372036854775807 - b1 := fun h => wrap_id (by omega) (by omega)
  have w2 : b1 < 0 → wrap64 (-9223372036854775808 - b1) = -9223372036854775808 - b1 := fun h => wrap_id (by omega) (by omega)
  have e : ((0 < b1 ∧ wrap64 (9223372036854775807 - b1) < a1) ∨ (b1 < 0 ∧ a1 < wrap64 (-9223372036854775808 - b1))) ↔ ¬ In (a1 + b1) := by
    unfold In
    constructor
    · rintro (⟨h1, h2⟩ | ⟨h1, h2⟩)
      · rw [w1 h1] at h2; omega
      · rw [w2 h1] at h2; omega
    · intro h
      by_cases h1 : 0 < b1
      · exact .inl ⟨h1, by rw [w1 h1]; omega⟩
      · exact .inr ⟨by omega, by rw [w2 (by omega)]; omega⟩
  unfold numV
  by_cases h : In (a1 + b1)
  · rw [if_pos h, if_neg (fun x => e.1 x h), wrap_of_in h]
  · rw [if_neg h, if_pos (e.2 h)]
theorem refSub_eq (k : Nat) (hk : 2 < k) {a0 a1 b0 b1 : Int} (ha : In a1) (hb : In b1) : roadbookref01_Sub.f k a0 a1 b0 b1 = some (twoV (a0, a1) (b0, b1) (numV (a1 - b1))) := by
  unfold roadbookref01_Sub.f
  rw [ref_two' _ _ _ _ _ _ hk, odd_or]
  congr 2
  unfold In at ha hb
  have w1 : b1 < 0 → wrap64 (9223372036854775807 + b1) = 9223372036854775807 + b1 := fun h => wrap_id (by omega) (by omega)
  have w2 : 0 < b1 → wrap64 (-9223372036854775808 + b1) = -9223372036854775808 + b1 := fun h => wrap_id (by omega) (by omega)
  have e : ((b1 < 0 ∧ wrap64 (9223372036854775807 + b1) < a1) ∨ (0 < b1 ∧ a1 < wrap64 (-9223372036854775808 + b1))) ↔ ¬ In (a1 - b1) := by
    unfold In
    constructor
    · rintro (⟨h1, h2⟩ | ⟨h1, h2⟩)
      · rw [w1 h1] at h2; omega
      · rw [w2 h1] at h2; omega
    · intro h
      by_cases h1 : b1 < 0
      · exact .inl ⟨h1, by rw [w1 h1]; omega⟩
      · exact .inr ⟨by omega, by rw [w2 (by omega)]; omega⟩
  unfold numV
  by_cases h : In (a1 - b1)
  · rw [if_pos h, if_neg (fun x => e.1 x h), wrap_of_in h]
  · rw [if_neg h, if_pos (e.2 h)]
theorem refMul_num (k : Nat) {x y : Int} (a0 b0 : Int) (hx : In x) (hy : In y) (b : Bool) (hb : b = decide (x = 0 ∨ y = 0)) : roadbookref01_Mul.j0 (k + 1 + 1) b a0 x b0 y = some (numV (x * y)) := by
  simp only [roadbookref01_Mul.j0]
  by_cases h0 : x = 0 ∨ y = 0
  · rw [if_pos (by rw [hb]; simpa using h0)]
    have : x * y = 0 := by rcases h0 with h | h <;> simp [h]
    rw [this]; rfl
  · rw [if_neg (by rw [hb]; simpa using h0)]
    have hy0 : y ≠ 0 := fun h => h0 (.inr h)
    have main : ∀ s : Bool, s = decide ((x = -1 ∧ y = -9223372036854775808) ∨ (y = -1 ∧ x = -9223372036854775808)) → roadbookref01_Mul.j1 (k + 1) s a0 x b0 y = some (numV (x * y)) := by
      intro s hs
      simp only [roadbookref01_Mul.j1]
      by_cases hsp : (x = -1 ∧ y = -9223372036854775808) ∨ (y = -1 ∧ x = -9223372036854775808)
      · rw [if_pos (by rw [hs]; simpa using hsp)]
        have : x * y = 9223372036854775808 := by rcases hsp with ⟨h1, h2⟩ | ⟨h1, h2⟩ <;> rw [h1, h2] <;> rfl
        rw [this]; rfl
      · rw [if_neg (by rw [hs]; simpa using hsp), if_neg hy0]
        by_cases hi : In (x * y)
        · rw [wrap_of_in hi, Int.mul_tdiv_cancel x hy0, wrap_of_in hx, if_pos rfl, Int.mul_tmod_left, if_pos rfl]
          unfold numV; rw [if_pos hi]
        · have hw := wrap_in (x * y)
          have hno : ¬ (wrap64 (Int.tdiv (wrap64 (x * y)) y) = x ∧ Int.tmod (wrap64 (x * y)) y = 0) := by
            rintro ⟨h1, h2⟩
            generalize hn : wrap64 (x * y) = n at h1 h2 hw
            have hq : ¬ (y = -1 ∧ n = -9223372036854775808) := by
              rintro ⟨e1, e2⟩
              rw [e1, e2] at h1
              have : wrap64 (Int.tdiv (-9223372036854775808) (-1)) = -9223372036854775808 := by decide +kernel
              rw [this] at h1
              exact hsp (.inr ⟨e1, h1.symm⟩)
            rw [wrap_of_in (tdiv_in hw hq)] at h1
            have h3 := Int.mul_tdiv_add_tmod n y
            rw [h1, h2, Int.add_zero, Int.mul_comm] at h3
            exact hi (h3 ▸ hw)
          unfold numV
          rw [if_neg hi]
          by_cases h1 : wrap64 (Int.tdiv (wrap64 (x * y)) y) = x
          · rw [if_pos h1]
            by_cases h2 : Int.tmod (wrap64 (x * y)) y = 0
            · exact absurd ⟨h1, h2⟩ hno
            · rw [if_neg h2]
          · rw [if_neg h1]
    split
    · rename_i hx1
      split
      · rename_i hy1; exact main _ (by simp [hx1, hy1])
      · rename_i hy1
        split
        · rename_i hy2; exact main _ (by simp [hx1, hy2])
        · rename_i hy2; exact main _ (by simp [hy1, hy2])
    · rename_i hx1
      split
      · rename_i hy2
        exact main _ (by rw [Bool.eq_iff_iff]; simp [hx1, hy2])
      · rename_i hy2; exact main _ (by simp [hx1, hy2])
theorem refMul_eq (k : Nat) {a0 a1 b0 b1 : Int} (ha : In a1) (hb : In b1) : roadbookref01_Mul.f (k + 3) a0 a1 b0 b1 = some (twoV (a0, a1) (b0, b1) (numV (a1 * b1))) := by
  unfold roadbookref01_Mul.f
  rw [ref_two _ _ _ _ _ _ (by omega), ← odd_or]
  congr 1
  split
  · rename_i h; exact refMul_num (k + 1) a0 b0 ha hb true (by simp [h])
  · rename_i h; exact refMul_num (k + 1) a0 b0 ha hb _ (by rw [Bool.eq_iff_iff]; simp [h])
theorem refDiv_eq (k : Nat) (hk : 2 < k) {a0 a1 b0 b1 : Int} (ha : In a1) (hb : In b1) : roadbookref01_Div.f k a0 a1 b0 b1 = some (twoV (a0, a1) (b0, b1) (quoV a1 b1)) := by
  unfold roadbookref01_Div.f
  rw [ref_two _ _ _ _ _ _ hk, ← odd_or]
  congr 1
  unfold quoV
  by_cases h0 : b1 = 0
  · rw [if_pos h0, if_pos (.inl h0)]
  · rw [if_neg h0]
    by_cases h1 : b1 = -1
    · rw [if_pos h1]
      by_cases h2 : a1 = -9223372036854775808
      · rw [if_pos h2, if_pos (.inr ⟨h1, h2⟩)]
      · rw [if_neg h2, if_neg (by simp [h0, h2]), wrap_of_in (tdiv_in ha (fun e => h2 e.2))]
    · rw [if_neg h1, if_neg (by simp [h0, h1]), wrap_of_in (tdiv_in ha (fun e => h1 e.1))]
def oneV (b : Bool) : Int × Int := if b then (0, 1) else (0, 0)
theorem refEq_eq (k : Nat) (hk : 2 < k) (a0 a1 b0 b1 : Int) : roadbookref01_Eq.f k a0 a1 b0 b1 = some (twoV (a0, a1) (b0, b1) (oneV (a1 == b1))) := by
  unfold roadbookref01_Eq.f
  rw [ref_two' _ _ _ _ _ _ hk, ← odd_or]
  unfold roadbookref01_one.f oneV
  cases a1 == b1 <;> rfl
theorem refLt_eq (k : Nat) (hk : 2 < k) (a0 a1 b0 b1 : Int) : roadbookref01_Lt.f k a0 a1 b0 b1 = some (twoV (a0, a1) (b0, b1) (oneV (decide (a1 < b1)))) := by
  unfold roadbookref01_Lt.f
  rw [ref_two' _ _ _ _ _ _ hk, ← odd_or]
  unfold roadbookref01_one.f oneV
  cases decide (a1 < b1) <;> rfl
theorem lt_eq (a0 a1 b0 b1 : Int) : val_Lt.f a0 a1 b0 b1 = some (twoV (a0, a1) (b0, b1) (oneV (decide (a1 < b1)))) := by
  unfold val_Lt.f val_odd.f
  rw [Option.bind_some, ← odd_or]
  unfold val_of.f val_Of.f oneV
  cases decide (a1 < b1) <;> rfl
theorem eq_eq (a0 a1 b0 b1 : Int) : val_Eq.f a0 a1 b0 b1 = some (twoV (a0, a1) (b0, b1) (oneV (a1 == b1))) := by
  unfold val_Eq.f val_odd.f
  rw [Option.bind_some, ← odd_or]
  unfold val_of.f val_Of.f oneV
  by_cases h : (oddV [⟨a0, a1⟩, ⟨b0, b1⟩]).2.2 = true
  · rw [if_pos h, if_pos h]
  · rw [if_neg h, if_neg h]
    rw [odd_two] at h
    have h1 : ¬ (vk a0 a1 = 2 ∨ vk b0 b1 = 2) := fun e => h (by rw [if_pos e])
    have h2 : ¬ (vk a0 a1 = 1 ∨ vk b0 b1 = 1) := fun e => h (by rw [if_neg h1, if_pos e])
    have ha : a0 = 0 := by rcases vk_cases a0 a1 with ⟨_, e⟩ | ⟨e, _⟩ | e <;> first | exact e | (exfalso; omega)
    have hb : b0 = 0 := by rcases vk_cases b0 b1 with ⟨_, e⟩ | ⟨e, _⟩ | e <;> first | exact e | (exfalso; omega)
    rw [ha, hb]
    cases a1 == b1 <;> rfl
theorem ValReckons_pure : ValReckons_Pure := by
  intro a b ha hb
  have ha : In a.f1 := wf_i64 ha.2
  have hb : In b.f1 := wf_i64 hb.2
  refine ⟨0 + 1 + 1 + 3 + 3, ?_⟩
  unfold roadbooklaw01_ValReckons.f
  rw [awake01, Option.bind_some, val_May_eq, Option.bind_some, ref_May_eq, Option.bind_some, if_pos (by simp), less_eq, Option.bind_some, refLess_eq, Option.bind_some]
  simp only [roadbooklaw01_ValReckons.j0]
  rw [add_eq ha hb, Option.bind_some, refAdd_eq _ (by omega) ha hb, Option.bind_some, if_pos (by simp), sub_eq ha hb, Option.bind_some, refSub_eq _ (by omega) ha hb, Option.bind_some, if_pos (by simp), mul_eq ha hb, Option.bind_some, refMul_eq _ ha hb, Option.bind_some, if_pos (by simp), div_eq ha hb, Option.bind_some, refDiv_eq _ (by omega) ha hb, Option.bind_some]
  simp only [roadbooklaw01_ValReckons.j1]
  rw [if_pos trivial, if_pos (by simp), if_pos (by simp), eq_eq, Option.bind_some, refEq_eq _ (by omega), Option.bind_some, if_pos (by simp), lt_eq, Option.bind_some, refLt_eq _ (by omega), Option.bind_some]
  simp
end Go.Proofs.Ytdegbnjnbpjdfaa.U
