/- Plain facts on trees' sets: which numbers they are, and how deep a tree of a set is. -/
import Derived.Test.YtdegbnjnbpjdfaaTLib
namespace Go.Proofs.Ytdegbnjnbpjdfaa.T
open Go.RowKit Go.Proofs.YtdegbnjnbpjdfaaW.PrintWords Go.Proofs.YtdegbnjnbpjdfaaW.PrintLast Go.Proofs.YtdegbnjnbpjdfaaW.PrintMore
set_option linter.unusedVariables false
set_option linter.unusedSimpArgs false
/-- how many occurrences -/
def pc (n : Nat) : Nat := n % 2 + n / 2 % 2 + n / 4 % 2 + n / 8 % 2
theorem or_nat (i j : Nat) (hi : i < 16) (hj : j < 16) : Go.bits .or .i64 (i : Int) (j : Int) = ((i ||| j : Nat) : Int) := by
  have h : ∀ a : Fin 16, ∀ b : Fin 16, Go.bits .or .i64 (a.val : Int) (b.val : Int) = ((a.val ||| b.val : Nat) : Int) := by decide +kernel
  exact h ⟨i, hi⟩ ⟨j, hj⟩
theorem and_nat (i j : Nat) (hi : i < 16) (hj : j < 16) : Go.bits .and .i64 (i : Int) (j : Int) = ((i &&& j : Nat) : Int) := by
  have h : ∀ a : Fin 16, ∀ b : Fin 16, Go.bits .and .i64 (a.val : Int) (b.val : Int) = ((a.val &&& b.val : Nat) : Int) := by decide +kernel
  exact h ⟨i, hi⟩ ⟨j, hj⟩
theorem or_rng (i j : Nat) (hi : i < 16) (hj : j < 16) : i ||| j < 16 ∧ (1 ≤ i → 1 ≤ i ||| j) := by
  have h : ∀ a : Fin 16, ∀ b : Fin 16, a.val ||| b.val < 16 ∧ (1 ≤ a.val → 1 ≤ a.val ||| b.val) := by decide +kernel
  exact h ⟨i, hi⟩ ⟨j, hj⟩
theorem pc_or (i j : Nat) (hi : i < 16) (hj : j < 16) (h : i &&& j = 0) : pc (i ||| j) = pc i + pc j := by
  have h' : ∀ a : Fin 16, ∀ b : Fin 16, a.val &&& b.val = 0 → pc (a.val ||| b.val) = pc a.val + pc b.val := by decide +kernel
  exact h' ⟨i, hi⟩ ⟨j, hj⟩ h
theorem pc_pos (i : Nat) (hi : i < 16) (h : 1 ≤ i) : 1 ≤ pc i ∧ pc i ≤ 4 := by
  have h' : ∀ a : Fin 16, 1 ≤ a.val → 1 ≤ pc a.val ∧ pc a.val ≤ 4 := by decide +kernel
  exact h' ⟨i, hi⟩ h
theorem shl_leaf (o : Int) (h0 : 0 ≤ o) (h1 : o < 4) : ∃ n : Nat, 1 ≤ n ∧ n < 16 ∧ pc n = 1 ∧ shl .i64 1 (mx (Int.tmod o 4) 0) = (n : Int) := by
  have : o = 0 ∨ o = 1 ∨ o = 2 ∨ o = 3 := by omega
  rcases this with rfl | rfl | rfl | rfl
  · exact ⟨1, by decide, by decide, by decide, by decide +kernel⟩
  · exact ⟨2, by decide, by decide, by decide, by decide +kernel⟩
  · exact ⟨4, by decide, by decide, by decide, by decide +kernel⟩
  · exact ⟨8, by decide, by decide, by decide, by decide +kernel⟩
theorem setV_leaf (d : Nat) (o : Int) : setV (d + 1) ⟨o, []⟩ = (shl .i64 1 (mx (Int.tmod o 4) 0), decide (0 ≤ o) && decide (o < 4)) := rfl
theorem setV_two (d : Nat) (o : Int) (a b : Tr) : setV (d + 1) ⟨o, [a, b]⟩ = if o = 0 then (Go.bits .or .i64 (setV d a).1 (setV d b).1, (setV d a).2 && (setV d b).2 && (Go.bits .and .i64 (setV d a).1 (setV d b).1 == 0)) else (0, false) := rfl
/-- a tree that may be: its set is a number below 16, and it is no deeper than it has occurrences -/
theorem set_good : ∀ (d : Nat) (t : Tr), (setV d t).2 = true → ∃ n : Nat, 1 ≤ n ∧ n < 16 ∧ (∀ e, pc n ≤ e → setV e t = ((n : Int), true)) ∧ (setV d t).1 = (n : Int) ∧ pc n ≤ 4
  | 0, t, h => by simp [setV] at h
  | d + 1, ⟨o, l⟩, h => by
    rcases l with _ | ⟨a, _ | ⟨b, _ | ⟨c, l⟩⟩⟩
    · rw [setV_leaf] at h
      simp only [Bool.and_eq_true, decide_eq_true_eq] at h
      obtain ⟨n, h1, h2, h3, h4⟩ := shl_leaf o h.1 h.2
      refine ⟨n, h1, h2, fun e he => ?_, by rw [setV_leaf]; exact h4, by omega⟩
      obtain ⟨e, rfl⟩ : ∃ j, e = j + 1 := ⟨e - 1, by omega⟩
      rw [setV_leaf, h4]
      simp [h.1, h.2]
    · simp [setV] at h
    · rw [setV_two] at h
      by_cases ho : o = 0
      · rw [if_pos ho] at h
        simp only [Bool.and_eq_true, beq_iff_eq] at h
        obtain ⟨⟨ha, hb⟩, hab⟩ := h
        obtain ⟨n, n1, n2, n3, n4, n5⟩ := set_good d a ha
        obtain ⟨m, m1, m2, m3, m4, m5⟩ := set_good d b hb
        rw [n4, m4, and_nat n m n2 m2] at hab
        have hab' : n &&& m = 0 := by exact_mod_cast hab
        have hpc := pc_or n m n2 m2 hab'
        have hn := pc_pos n n2 n1
        have hm := pc_pos m m2 m1
        have hor := or_rng n m n2 m2
        refine ⟨n ||| m, hor.2 n1, hor.1, fun e he => ?_, by rw [setV_two, if_pos ho, n4, m4, or_nat n m n2 m2], (pc_pos _ hor.1 (hor.2 n1)).2⟩
        obtain ⟨e, rfl⟩ : ∃ j, e = j + 1 := ⟨e - 1, by omega⟩
        rw [setV_two, if_pos ho, n3 e (by omega), m3 e (by omega)]
        simp only [or_nat n m n2 m2, and_nat n m n2 m2, hab']
        rfl
      · rw [if_neg ho] at h; simp at h
    · simp [setV] at h
theorem set_pos (d : Nat) (t : Tr) : (setV d t).2 = decide ((if (setV d t).2 = true then (setV d t).1 else 0) > 0) := by
  cases h : (setV d t).2 with
  | false => simp
  | true =>
    obtain ⟨n, h1, h2, h3, h4, h5⟩ := set_good d t h
    rw [if_pos rfl, h4]
    simp only [gt_iff_lt]
    symm; rw [decide_eq_true_eq]; omega
/-- the set that is told -/
def sv (t : Tr) : Int := if (setV 4 t).2 = true then (setV 4 t).1 else 0
theorem sv_may (t : Tr) : (setV 4 t).2 = decide (sv t > 0) := set_pos 4 t
theorem sv_rng (t : Tr) : ∃ n : Nat, n < 16 ∧ sv t = (n : Int) := by
  unfold sv
  cases h : (setV 4 t).2 with
  | false => exact ⟨0, by omega, by simp⟩
  | true =>
    obtain ⟨n, h1, h2, h3, h4, h5⟩ := set_good 4 t h
    exact ⟨n, h2, by rw [if_pos rfl, h4]⟩
theorem may_join (a b : Tr) : (setV 4 ⟨0, [a, b]⟩).2 = (decide (sv a > 0) && decide (sv b > 0) && (Go.bits .and .i64 (sv a) (sv b) == 0)) ∧ ((setV 4 ⟨0, [a, b]⟩).2 = true → (setV 4 ⟨0, [a, b]⟩).1 = Go.bits .or .i64 (sv a) (sv b)) := by
  have e := setV_two 3 0 a b
  rw [if_pos rfl] at e
  have up : ∀ t : Tr, (setV 3 t).2 = true → setV 4 t = setV 3 t ∧ sv t = (setV 3 t).1 ∧ sv t > 0 := by
    intro t h
    obtain ⟨n, h1, h2, h3, h4, h5⟩ := set_good 3 t h
    have hp := pc_pos n h2 h1
    have q : setV 4 t = ((n : Int), true) := h3 4 h5
    have q3 : setV 3 t = ((n : Int), true) := Prod.ext h4 h
    refine ⟨by rw [q, q3], ?_, ?_⟩
    · unfold sv; rw [q, q3]; simp
    · unfold sv; rw [q]; simp; omega
  have down : sv a > 0 → sv b > 0 → Go.bits .and .i64 (sv a) (sv b) = 0 → (setV 3 a).2 = true ∧ (setV 3 b).2 = true := by
    intro ha hb hab
    have ha' := sv_may a; rw [decide_eq_true ha] at ha'
    have hb' := sv_may b; rw [decide_eq_true hb] at hb'
    obtain ⟨n, n1, n2, n3, n4, n5⟩ := set_good 4 a ha'
    obtain ⟨m, m1, m2, m3, m4, m5⟩ := set_good 4 b hb'
    have sa : sv a = (n : Int) := by unfold sv; rw [if_pos ha', n4]
    have sb : sv b = (m : Int) := by unfold sv; rw [if_pos hb', m4]
    rw [sa, sb, and_nat n m n2 m2] at hab
    have hab' : n &&& m = 0 := by exact_mod_cast hab
    have hpc := pc_or n m n2 m2 hab'
    have hor := or_rng n m n2 m2
    have h4 := (pc_pos _ hor.1 (hor.2 n1)).2
    have hn := pc_pos n n2 n1
    have hm := pc_pos m m2 m1
    rw [n3 3 (by omega), m3 3 (by omega)]
    exact ⟨rfl, rfl⟩
  constructor
  · rw [e, Bool.eq_iff_iff]
    simp only [Bool.and_eq_true, beq_iff_eq, decide_eq_true_eq]
    constructor
    · rintro ⟨⟨ha, hb⟩, hab⟩
      obtain ⟨_, a1, a2⟩ := up a ha
      obtain ⟨_, b1, b2⟩ := up b hb
      exact ⟨⟨a2, b2⟩, by rw [a1, b1]; exact hab⟩
    · rintro ⟨⟨ha, hb⟩, hab⟩
      obtain ⟨p, q⟩ := down ha hb hab
      refine ⟨⟨p, q⟩, ?_⟩
      rw [← (up a p).2.1, ← (up b q).2.1]; exact hab
  · intro h
    rw [e] at h ⊢
    simp only [Bool.and_eq_true, beq_iff_eq] at h
    rw [(up a h.1.1).2.1, (up b h.1.2).2.1]
end Go.Proofs.Ytdegbnjnbpjdfaa.T
