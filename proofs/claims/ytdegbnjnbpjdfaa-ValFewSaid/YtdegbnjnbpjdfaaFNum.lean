/- Sums, differences, products and quotients of two values: what the program's ways and the plain numbers come to is the same. -/
import Derived.Test.YtdegbnjnbpjdfaaFLib
import Derived.Lib.Mul64
import Derived.Laws.Bits64b
namespace Go.Proofs.Ytdegbnjnbpjdfaa.F
open Go.RowKit Go.Proofs.YtdegbnjnbpjdfaaW.PrintWords Go.Proofs.YtdegbnjnbpjdfaaW.PrintLast Go.Proofs.YtdegbnjnbpjdfaaW.PrintMore
set_option linter.unusedVariables false
set_option linter.unusedSimpArgs false

def In (n : Int) : Prop := -9223372036854775808 ≤ n ∧ n ≤ 9223372036854775807
instance (n : Int) : Decidable (In n) := by unfold In; infer_instance
theorem wrap_in (n : Int) : In (wrap64 n) := by unfold In wrap64; omega
theorem wrap_of_in {n : Int} (h : In n) : wrap64 n = n := wrap_id h.1 h.2
theorem add_flag {x y : Int} (hx : In x) (hy : In y) : (decide (wrap64 (x + y) < x) == decide (y < 0)) = decide (In (x + y)) := by
  unfold In at *
  unfold wrap64
  by_cases h1 : (x + y + 9223372036854775808) % 18446744073709551616 - 9223372036854775808 < x <;> by_cases h2 : y < 0 <;> by_cases h3 : -9223372036854775808 ≤ x + y ∧ x + y ≤ 9223372036854775807 <;> simp [h1, h2, h3] <;> omega
theorem sub_flag {x y : Int} (hx : In x) (hy : In y) : (decide (wrap64 (x - y) > x) == decide (y < 0)) = decide (In (x - y)) := by
  unfold In at *
  unfold wrap64
  by_cases h1 : (x - y + 9223372036854775808) % 18446744073709551616 - 9223372036854775808 > x <;> by_cases h2 : y < 0 <;> by_cases h3 : -9223372036854775808 ≤ x - y ∧ x - y ≤ 9223372036854775807 <;> simp [h1, h2, h3] <;> omega
/-- a number, or an error where it is too great -/
def numV (n : Int) : Int × Int := if In n then (0, n) else (2, 0)
/-- what two values come to: an error, nothing, or what their numbers do -/
def twoV (a b : Int × Int) (n : Int × Int) : Int × Int := if vk a.1 a.2 = 2 ∨ vk b.1 b.2 = 2 then (2, 0) else if vk a.1 a.2 = 1 ∨ vk b.1 b.2 = 1 then (1, 0) else n
theorem odd_two (a0 a1 b0 b1 : Int) : oddV [⟨a0, a1⟩, ⟨b0, b1⟩] = if vk a0 a1 = 2 ∨ vk b0 b1 = 2 then (2, 0, true) else if vk a0 a1 = 1 ∨ vk b0 b1 = 1 then (1, 0, true) else (0, 0, false) := by
  unfold oddV
  simp
theorem reckon_two (q : Int → Int → Int × Bool) (a0 a1 b0 b1 : Int) : reckonV q a0 a1 b0 b1 = twoV (a0, a1) (b0, b1) (if (q a1 b1).2 then (0, (q a1 b1).1) else (2, 0)) := by
  unfold reckonV twoV
  rw [odd_two]
  split
  · rfl
  · split <;> rfl
theorem add_eq {a0 a1 b0 b1 : Int} (ha : In a1) (hb : In b1) : val_Add.f a0 a1 b0 b1 = some (twoV (a0, a1) (b0, b1) (numV (a1 + b1))) := by
  unfold val_Add.f
  rw [reckon_two]
  have : qOf val_Add_1.f a1 b1 = (wrap64 (a1 + b1), (decide (wrap64 (a1 + b1) < a1) == decide (b1 < 0))) := rfl
  rw [this, add_flag ha hb]
  unfold numV
  by_cases h : In (a1 + b1)
  · simp only [h, decide_true, if_true, wrap_of_in h]
  · simp only [h, decide_false, if_false, Bool.false_eq_true]
theorem sub_eq {a0 a1 b0 b1 : Int} (ha : In a1) (hb : In b1) : val_Sub.f a0 a1 b0 b1 = some (twoV (a0, a1) (b0, b1) (numV (a1 - b1))) := by
  unfold val_Sub.f
  rw [reckon_two]
  have : qOf val_Sub_1.f a1 b1 = (wrap64 (a1 - b1), (decide (wrap64 (a1 - b1) > a1) == decide (b1 < 0))) := rfl
  rw [this, sub_flag ha hb]
  unfold numV
  by_cases h : In (a1 - b1)
  · simp only [h, decide_true, if_true, wrap_of_in h]
  · simp only [h, decide_false, if_false, Bool.false_eq_true]
/-- a quotient, or an error -/
def quoV (x y : Int) : Int × Int := if y = 0 ∨ (y = -1 ∧ x = -9223372036854775808) then (2, 0) else (0, Int.tdiv x y)
theorem tdiv_in {x y : Int} (hx : In x) (h : ¬ (y = -1 ∧ x = -9223372036854775808)) : In (Int.tdiv x y) := by
  unfold In at *
  have h1 : (Int.tdiv x y).natAbs = x.natAbs / y.natAbs := Int.natAbs_tdiv x y
  have h2 : x.natAbs / y.natAbs ≤ x.natAbs := Nat.div_le_self _ _
  by_cases hm : x = -9223372036854775808
  · subst hm
    have hy : y ≠ -1 := fun e => h ⟨e, rfl⟩
    by_cases hy0 : y = 0
    · subst hy0; simp
    by_cases hy1 : y = 1
    · subst hy1; simp
    have h3 : 2 ≤ y.natAbs := by omega
    have h4 : (-9223372036854775808 : Int).natAbs / y.natAbs ≤ 9223372036854775808 / 2 := Nat.div_le_div_left h3 (by omega)
    omega
  · omega
theorem div_eq {a0 a1 b0 b1 : Int} (ha : In a1) (hb : In b1) : val_Div.f a0 a1 b0 b1 = some (twoV (a0, a1) (b0, b1) (quoV a1 b1)) := by
  unfold val_Div.f
  rw [reckon_two]
  have : qOf val_Div_1.f a1 b1 = if b1 = 0 ∨ (b1 = -1 ∧ a1 = -9223372036854775808) then (0, false) else (Int.tdiv a1 b1, true) := by
    unfold qOf val_Div_1.f
    by_cases h0 : b1 = 0
    · simp [h0]
    · by_cases h1 : a1 = -9223372036854775808
      · by_cases h2 : b1 = -1
        · simp [h0, h1, h2]
        · rw [if_neg h0, if_pos h1, if_neg h2, if_neg (by simp [h0, h2])]
          have := wrap_of_in (tdiv_in ha (y := b1) (fun e => h2 e.1))
          rw [this]; rfl
      · rw [if_neg h0, if_neg h1, if_neg (by simp [h0, h1])]
        have := wrap_of_in (tdiv_in ha (y := b1) (fun e => h1 e.2))
        rw [this]; rfl
  rw [this]
  unfold quoV
  split <;> rfl
theorem maskN (a : Nat) (ha : a < 18446744073709551616) : bits .and .u64 (a : Int) 4294967295 = ((a % 4294967296 : Nat) : Int) := by
  have h := bits_and_u64_nat a 4294967295 ha (by omega)
  rw [Nat.and_two_pow_sub_one_eq_mod a 32] at h
  exact h
theorem divN (a : Nat) : (a : Int) / 4294967296 = ((a / 4294967296 : Nat) : Int) := by omega
theorem mulN (a b : Nat) : (a : Int) * (b : Int) = ((a * b : Nat) : Int) := (Int.natCast_mul a b).symm
theorem addN (a b : Nat) : (a : Int) + (b : Int) = ((a + b : Nat) : Int) := (Int.natCast_add a b).symm
theorem u64w (n : Int) : IntKind.u64.wrap n = n % 18446744073709551616 := rfl
theorem wrapN (a : Nat) (ha : a < 18446744073709551616) : IntKind.u64.wrap (a : Int) = (a : Int) := by rw [u64w]; omega
theorem wrapM (a : Nat) : IntKind.u64.wrap (a : Int) = ((a % 18446744073709551616 : Nat) : Int) := by rw [u64w]; omega
set_option maxHeartbeats 1000000 in
theorem mul64_eq (x y : Nat) (hx : x < 18446744073709551616) (hy : y < 18446744073709551616) : bits_Mul64.f (x : Int) (y : Int) = some (((x * y / 18446744073709551616 : Nat) : Int), ((x * y % 18446744073709551616 : Nat) : Int)) := by
  obtain ⟨bd, bt, bw, hhi⟩ := Lib.mul64_hi x y hx hy
  have ba := Lib.half_mul_le (a := x / 4294967296) (b := y / 4294967296) (by omega) (by omega)
  have bb := Lib.half_mul_le (a := x / 4294967296) (b := y % 4294967296) (by omega) (by omega)
  have bc := Lib.half_mul_le (a := x % 4294967296) (b := y / 4294967296) (by omega) (by omega)
  have ba' : x / 4294967296 * (y / 4294967296) < 18446744073709551616 := by omega
  have bb' : x / 4294967296 * (y % 4294967296) < 18446744073709551616 := by omega
  have bc' : x % 4294967296 * (y / 4294967296) < 18446744073709551616 := by omega
  have bh1 : x / 4294967296 * (y / 4294967296) + (x / 4294967296 * (y % 4294967296) + x % 4294967296 * (y % 4294967296) / 4294967296) / 4294967296 < 18446744073709551616 := by omega
  have bh : x / 4294967296 * (y / 4294967296) + (x / 4294967296 * (y % 4294967296) + x % 4294967296 * (y % 4294967296) / 4294967296) / 4294967296 + ((x / 4294967296 * (y % 4294967296) + x % 4294967296 * (y % 4294967296) / 4294967296) % 4294967296 + x % 4294967296 * (y / 4294967296)) / 4294967296 < 18446744073709551616 := by omega
  unfold bits_Mul64.f
  simp only [maskN x hx, maskN y hy, divN, mulN, addN, wrapN _ bd, wrapN _ bb', wrapN _ bt, maskN _ bt, wrapN _ bc', wrapN _ bw, wrapN _ ba', wrapN _ bh1, wrapN _ bh, wrapM (x * y)]
  rw [hhi]
theorem size_eq {x : Int} (hx : In x) : val_size.f x = some (x.natAbs : Int) := by
  unfold In at hx
  unfold val_size.f
  split
  · simp only [u64w]; congr 1; omega
  · simp only [u64w]; congr 1; omega
theorem mul_flag {x y : Int} (hx : In x) (hy : In y) : qOf val_Mul_1.f x y = (wrap64 (x * y), decide (In (x * y))) := by
  have hx' := hx; have hy' := hy
  unfold In at hx' hy'
  have bx : x.natAbs < 18446744073709551616 := by omega
  have by' : y.natAbs < 18446744073709551616 := by omega
  have habs : (x * y).natAbs = x.natAbs * y.natAbs := Int.natAbs_mul x y
  unfold qOf val_Mul_1.f
  rw [size_eq hx, Option.bind_some, size_eq hy, Option.bind_some, mul64_eq _ _ bx by', Option.bind_some]
  rw [← habs]
  generalize hz : x * y = z
  rw [hz] at habs
  have hsign : (decide (x < 0) != decide (y < 0)) = true → z ≤ 0 := by
    intro h
    rw [← hz]
    by_cases h1 : x < 0 <;> by_cases h2 : y < 0 <;> simp [h1, h2] at h
    · exact Int.mul_nonpos_of_nonpos_of_nonneg (by omega) (by omega)
    · exact Int.mul_nonpos_of_nonneg_of_nonpos (by omega) (by omega)
  have hsign2 : ¬ (decide (x < 0) != decide (y < 0)) = true → 0 ≤ z := by
    intro h
    rw [← hz]
    by_cases h1 : x < 0 <;> by_cases h2 : y < 0 <;> simp [h1, h2] at h
    · exact Int.mul_nonneg_of_nonpos_of_nonpos (by omega) (by omega)
    · exact Int.mul_nonneg (by omega) (by omega)
  have hin : In z ↔ (-9223372036854775808 ≤ z ∧ z ≤ 9223372036854775807) := Iff.rfl
  split
  · rename_i h
    have := hsign h
    split
    · rename_i h0
      simp only [Option.getD_some, Prod.mk.injEq, true_and]
      simp only at h0
      rw [decide_eq_decide, hin]
      constructor <;> intro _ <;> omega
    · rename_i h0
      simp only at h0
      have : ¬ In z := by rw [hin]; omega
      simp [this]
  · rename_i h
    have := hsign2 h
    split
    · rename_i h0
      simp only [Option.getD_some, Prod.mk.injEq, true_and]
      simp only at h0
      rw [decide_eq_decide, hin]
      constructor <;> intro _ <;> omega
    · rename_i h0
      simp only at h0
      have : ¬ In z := by rw [hin]; omega
      simp [this]
theorem mul_eq {a0 a1 b0 b1 : Int} (ha : In a1) (hb : In b1) : val_Mul.f a0 a1 b0 b1 = some (twoV (a0, a1) (b0, b1) (numV (a1 * b1))) := by
  unfold val_Mul.f
  rw [reckon_two, mul_flag ha hb]
  unfold numV
  by_cases h : In (a1 * b1)
  · simp only [h, decide_true, if_true, wrap_of_in h]
  · simp only [h, decide_false, if_false, Bool.false_eq_true]
end Go.Proofs.Ytdegbnjnbpjdfaa.F
