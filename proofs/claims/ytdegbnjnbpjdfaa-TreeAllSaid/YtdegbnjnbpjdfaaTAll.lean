/- All trees of a set: they are of it, no two the same, and all that there are. -/
import Derived.Test.YtdegbnjnbpjdfaaTText
import Derived.Test.YtdegbnjnbpjdfaaT9
namespace Go.Proofs.Ytdegbnjnbpjdfaa.T
open Go.RowKit Go.Proofs.YtdegbnjnbpjdfaaW.PrintWords Go.Proofs.YtdegbnjnbpjdfaaW.PrintLast Go.Proofs.YtdegbnjnbpjdfaaW.PrintMore
set_option linter.unusedVariables false
set_option linter.unusedSimpArgs false
set_option maxRecDepth 100000
def allL (n : Nat) : List Tr := (tree_All.f 1000 (n : Int)).getD []
theorem all_some (n : Nat) (h : n < 16) : tree_All.f 1000 (n : Int) = some (allL n) := by
  have h' : ∀ a : Fin 16, (tree_All.f 1000 (a.val : Int)).isSome = true := by decide +kernel
  have := h' ⟨n, h⟩
  unfold allL
  revert this
  cases tree_All.f 1000 (n : Int) with
  | none => intro h; simp at h
  | some l => intro _; rfl
theorem all_ev (n : Nat) (h : n < 16) : Ev (fun k => tree_All.f k (n : Int)) (allL n) := Ev.of_mono (tree_All.mono (n : Int)) (all_some n h)
theorem all_good (n : Nat) (h : n < 16) (x : Tr) (hx : x ∈ allL n) : setV 4 x = ((n : Int), true) := by
  have h' : ∀ a : Fin 16, (allL a.val).all (fun t => setV 4 t == ((a.val : Int), true)) = true := by decide +kernel
  have := List.all_eq_true.1 (h' ⟨n, h⟩) x hx
  exact beq_iff_eq.1 this
theorem all_len (n : Nat) (h : n < 16) : (allL n).length = [0, 1, 2, 12, 120].getD (pc n) 0 := by
  have h' : ∀ a : Fin 16, (allL a.val).length = [0, 1, 2, 12, 120].getD (pc a.val) 0 := by decide +kernel
  exact h' ⟨n, h⟩
def txs (n : Nat) : List (List UInt8) := (allL n).map (tx 4)
theorem all_apart (n : Nat) (h : n < 16) : (txs n).Nodup := by
  have h' : ∀ a : Fin 16, (txs a.val).Nodup := by decide +kernel
  exact h' ⟨n, h⟩
def closedB (i j : Nat) : Bool := if i &&& j = 0 then (let s := txs (i ||| j); let w := txs j; (txs i).all fun u => w.all fun v => s.contains (40 :: (u ++ (v ++ [41])))) else true
theorem all_closed (i j : Nat) (hi : i < 16) (hj : j < 16) (h : i &&& j = 0) (u v : List UInt8) (hu : u ∈ txs i) (hv : v ∈ txs j) (h1 : 1 ≤ i) (h2 : 1 ≤ j) : 40 :: (u ++ (v ++ [41])) ∈ txs (i ||| j) := by
  have h' : ∀ a : Fin 16, ∀ b : Fin 16, 1 ≤ a.val → 1 ≤ b.val → closedB a.val b.val = true := by decide +kernel
  have := h' ⟨i, hi⟩ ⟨j, hj⟩ h1 h2
  unfold closedB at this
  rw [if_pos h] at this
  have := List.all_eq_true.1 (List.all_eq_true.1 this u hu) v hv
  simpa using this
theorem all_leaf (o : Int) (h0 : 0 ≤ o) (h1 : o < 4) (n : Nat) (h : shl .i64 1 (mx (Int.tmod o 4) 0) = (n : Int)) : [UInt8.ofNat (48 + o.toNat)] ∈ txs n := by
  have : o = 0 ∨ o = 1 ∨ o = 2 ∨ o = 3 := by omega
  rcases this with rfl | rfl | rfl | rfl
  · have e : shl .i64 1 (mx (Int.tmod 0 4) 0) = (1 : Int) := by decide +kernel
    obtain rfl : n = 1 := by omega
    decide +kernel
  · have e : shl .i64 1 (mx (Int.tmod 1 4) 0) = (2 : Int) := by decide +kernel
    obtain rfl : n = 2 := by omega
    decide +kernel
  · have e : shl .i64 1 (mx (Int.tmod 2 4) 0) = (4 : Int) := by decide +kernel
    obtain rfl : n = 4 := by omega
    decide +kernel
  · have e : shl .i64 1 (mx (Int.tmod 3 4) 0) = (8 : Int) := by decide +kernel
    obtain rfl : n = 8 := by omega
    decide +kernel
theorem tx_deep : ∀ (d e : Nat) (t : Tr), (setV d t).2 = true → d ≤ e → tx e t = tx d t
  | 0, _, t, h, _ => by simp [setV] at h
  | d + 1, e, t, h, he => by
    obtain ⟨e, rfl⟩ : ∃ j, e = j + 1 := ⟨e - 1, by omega⟩
    rcases good_cases h with ⟨o, rfl, h0, h1⟩ | ⟨a, b, rfl, ha, hb, _⟩
    · rfl
    · rw [tx_two, tx_two, tx_deep d e a ha (by omega), tx_deep d e b hb (by omega)]
theorem all_there : ∀ (d : Nat) (t : Tr) (n : Nat), (setV d t).2 = true → (setV d t).1 = (n : Int) → tx d t ∈ txs n
  | 0, t, _, h, _ => by simp [setV] at h
  | d + 1, t, n, h, hn => by
    rcases good_cases h with ⟨o, rfl, h0, h1⟩ | ⟨a, b, rfl, ha, hb, hab⟩
    · rw [tx_leaf, rune_leaf o h0 h1]
      exact all_leaf o h0 h1 n hn
    · obtain ⟨i, i1, i2, i3, i4, i5⟩ := set_good d a ha
      obtain ⟨j, j1, j2, j3, j4, j5⟩ := set_good d b hb
      have h1 := all_there d a i ha i4
      have h2 := all_there d b j hb j4
      rw [i4, j4, and_nat i j i2 j2] at hab
      have hab' : i &&& j = 0 := by exact_mod_cast hab
      rw [setV_two, if_pos rfl] at hn
      have e' : Go.bits .or .i64 (setV d a).1 (setV d b).1 = (n : Int) := hn
      rw [i4, j4, or_nat i j i2 j2] at e'
      obtain rfl : n = i ||| j := by omega
      rw [tx_two]
      exact all_closed i j i2 j2 hab' _ _ h1 h2 i1 j1
/-- a tree is one of them just if it is of the set -/
theorem all_iff (n : Nat) (h1 : 1 ≤ n) (h : n < 16) (t : Tr) : t ∈ allL n ↔ sv t = (n : Int) := by
  constructor
  · intro ht
    have := all_good n h t ht
    unfold sv; rw [this]; rfl
  · intro ht
    have hm : (setV 4 t).2 = true := by rw [sv_may, ht]; exact decide_eq_true (by omega)
    have hs : (setV 4 t).1 = (n : Int) := by unfold sv at ht; rwa [if_pos hm] at ht
    have := all_there 4 t n hm hs
    obtain ⟨x, hx, ex⟩ := List.mem_map.1 this
    have hxg := all_good n h x hx
    have := (tx_inj 4 x t [] [] (by rw [hxg]) hm (by rw [ex])).1
    rw [← this]; exact hx
end Go.Proofs.Ytdegbnjnbpjdfaa.T
