/- Go functions of this claim as Lean functions, and that each call comes to what its Lean function says; written for this claim by a program of this session (mkprint.py, over the kit's printer). Conditions: those in each theorem. -/
import Derived.Test.YtdegbnjnbpjdfaaT0
import Derived.Test.YtdegbnjnbpjdfaaT2
import Derived.Test.YtdegbnjnbpjdfaaT4
import Derived.Test.YtdegbnjnbpjdfaaT6
import Derived.Test.YtdegbnjnbpjdfaaT7
import Derived.Test.YtdegbnjnbpjdfaaT9
import Derived.Test.YtdegbnjnbpjdfaaT10
import Derived.Test.YtdegbnjnbpjdfaaT11
namespace Go.Proofs.Ytdegbnjnbpjdfaa.T
open Go.RowKit Go.Proofs.YtdegbnjnbpjdfaaW.PrintWords Go.Proofs.YtdegbnjnbpjdfaaW.PrintLast Go.Proofs.YtdegbnjnbpjdfaaW.PrintMore
attribute [local go_sem] max2_int min2_int max_two min_two max_three min_three max_four min_four   -- for this text's walks alone
set_option linter.unusedVariables false
set_option linter.unusedSimpArgs false

/-! ### roadbooklaw06_TreeAll: function 10 -/
mutual
def roadbooklaw06_TreeAll.j0 : Nat → Int → Bool → Bool → Int → List (S39) → Option (Bool)
  | 0, _, _, _, _, _ => none
  | k + 1, x0, x5, x29, x392000, x392001 => if x29 = true then (some x5) else ((tree_All.f k x0).bind fun t394 => (roadbooklaw06_TreeAll.l0 k x0 t394 false (⟨#[]⟩ : ByteArray) 0 x392000 x392001))
def roadbooklaw06_TreeAll.l0 : Nat → Int → List (S39) → Bool → ByteArray → Int → Int → List (S39) → Option (Bool)
  | 0, _, _, _, _, _, _, _ => none
  | k + 1, x0, x6, x7, x8, x9, x392000, x392001 => if x9 < (x6.length : Int) then (if 0 ≤ x9 then ((tree_May.f k ((rd_T39 x6 x9).f0) ((rd_T39 x6 x9).f1)).bind fun t398 => (if t398 = true then ((tree_Set.f k ((rd_T39 x6 x9).f0) ((rd_T39 x6 x9).f1)).bind fun t400 => (roadbooklaw06_TreeAll.j2 k x0 x6 x7 x8 x9 (t400 != x0) x392000 x392001)) else (roadbooklaw06_TreeAll.j2 k x0 x6 x7 x8 x9 true x392000 x392001))) else (none)) else (roadbooklaw06_TreeAll.l1 k x0 x6 x7 x8 0 x392000 x392001)
def roadbooklaw06_TreeAll.j2 : Nat → Int → List (S39) → Bool → ByteArray → Int → Bool → Int → List (S39) → Option (Bool)
  | 0, _, _, _, _, _, _, _, _ => none
  | k + 1, x0, x6, x7, x8, x9, x53, x392000, x392001 => if x53 = true then (none) else (if x9 > 0 then (if 0 ≤ x9 then (if x9 < (x6.length : Int) then ((tree_Text.f k ((rd_T39 x6 x9).f0) ((rd_T39 x6 x9).f1)).bind fun t402 => (if 0 ≤ (wrap64 (x9 - 1)) then (if (wrap64 (x9 - 1)) < (x6.length : Int) then ((tree_Text.f k ((rd_T39 x6 (wrap64 (x9 - 1))).f0) ((rd_T39 x6 (wrap64 (x9 - 1))).f1)).bind fun t404 => (roadbooklaw06_TreeAll.j3 k x0 x6 x7 x8 x9 (t402.toList == t404.toList) x392000 x392001)) else (none)) else (none))) else (none)) else (none)) else (roadbooklaw06_TreeAll.j3 k x0 x6 x7 x8 x9 false x392000 x392001))
def roadbooklaw06_TreeAll.j3 : Nat → Int → List (S39) → Bool → ByteArray → Int → Bool → Int → List (S39) → Option (Bool)
  | 0, _, _, _, _, _, _, _, _ => none
  | k + 1, x0, x6, x7, x8, x9, x69, x392000, x392001 => if x69 = true then (none) else (if 0 ≤ x9 then (if x9 < (x6.length : Int) then ((tree_Text.f k ((rd_T39 x6 x9).f0) ((rd_T39 x6 x9).f1)).bind fun t406 => (if x8.size + t406.size ≤ 9223372036854775807 then (if (x8 ++ t406).size + 1 ≤ 9223372036854775807 then (if x7 = true then (roadbooklaw06_TreeAll.l0 k x0 x6 true ((x8 ++ t406) ++ (⟨#[32]⟩ : ByteArray)) (wrap64 (x9 + 1)) x392000 x392001) else ((tree_Same.f k ((rd_T39 x6 x9).f0) ((rd_T39 x6 x9).f1) x392000 x392001).bind fun t408 => (roadbooklaw06_TreeAll.l0 k x0 x6 t408 ((x8 ++ t406) ++ (⟨#[32]⟩ : ByteArray)) (wrap64 (x9 + 1)) x392000 x392001))) else (none)) else (none))) else (none)) else (none))
def roadbooklaw06_TreeAll.l1 : Nat → Int → List (S39) → Bool → ByteArray → Int → Int → List (S39) → Option (Bool)
  | 0, _, _, _, _, _, _, _ => none
  | k + 1, x0, x6, x7, x8, x10, x392000, x392001 => if x10 < (x6.length : Int) then (roadbooklaw06_TreeAll.l2 k x0 x6 x7 x8 x10 0 x392000 x392001) else ((some (([0, 1, 2, 12, 120] : List Int) : List Int)).bind fun y409 => (if 0 ≤ (wrap64 ((wrap64 ((wrap64 ((Int.tmod x0 2) + (Int.tmod (wrap64 (Int.tdiv x0 2)) 2))) + (Int.tmod (wrap64 (Int.tdiv x0 4)) 2))) + (Int.tmod (wrap64 (Int.tdiv x0 8)) 2))) then (if (wrap64 ((wrap64 ((wrap64 ((Int.tmod x0 2) + (Int.tmod (wrap64 (Int.tdiv x0 2)) 2))) + (Int.tmod (wrap64 (Int.tdiv x0 4)) 2))) + (Int.tmod (wrap64 (Int.tdiv x0 8)) 2))) < (y409.length : Int) then (if (x6.length : Int) = (rd y409 (wrap64 ((wrap64 ((wrap64 ((Int.tmod x0 2) + (Int.tmod (wrap64 (Int.tdiv x0 2)) 2))) + (Int.tmod (wrap64 (Int.tdiv x0 4)) 2))) + (Int.tmod (wrap64 (Int.tdiv x0 8)) 2)))) then ((tree_Set.f k x392000 x392001).bind fun t413 => (if (x7 == (t413 == x0)) = true then (some (decide ((x8.size : Int) ≥ (x6.length : Int)))) else (none))) else (none)) else (none)) else (none)))
def roadbooklaw06_TreeAll.l2 : Nat → Int → List (S39) → Bool → ByteArray → Int → Int → Int → List (S39) → Option (Bool)
  | 0, _, _, _, _, _, _, _, _ => none
  | k + 1, x0, x6, x7, x8, x10, x11, x392000, x392001 => if x11 < x10 then (if 0 ≤ x10 then (if x10 < (x6.length : Int) then (if 0 ≤ x11 then (if x11 < (x6.length : Int) then ((tree_Same.f k ((rd_T39 x6 x10).f0) ((rd_T39 x6 x10).f1) ((rd_T39 x6 x11).f0) ((rd_T39 x6 x11).f1)).bind fun t416 => (if t416 = true then (none) else (roadbooklaw06_TreeAll.l2 k x0 x6 x7 x8 x10 (wrap64 (x11 + 1)) x392000 x392001))) else (none)) else (none)) else (none)) else (none)) else (roadbooklaw06_TreeAll.l1 k x0 x6 x7 x8 (wrap64 (x10 + 1)) x392000 x392001)
end
def roadbooklaw06_TreeAll.f (k : Nat) (a0 : Int) (a1_0 : Int) (l1_1 : List (S39)) : Option (Bool) := (roadbooklaw06_awake.f k).bind fun t392 => (if t392 = true then (if a0 < 1 then (roadbooklaw06_TreeAll.j0 k a0 t392 true a1_0 l1_1) else (if a0 > 15 then (roadbooklaw06_TreeAll.j0 k a0 t392 true a1_0 l1_1) else ((roadbookref06_Size.f k a1_0 l1_1 100).bind fun t393 => (roadbooklaw06_TreeAll.j0 k a0 t392 (decide (t393 > 100)) a1_0 l1_1)))) else (roadbooklaw06_TreeAll.j0 k a0 t392 true a1_0 l1_1))
theorem roadbooklaw06_TreeAll.mono_l : ∀ k, (∀ y0 y1 y2 y3 y4, LeO (roadbooklaw06_TreeAll.j0 k y0 y1 y2 y3 y4) (roadbooklaw06_TreeAll.j0 (k + 1) y0 y1 y2 y3 y4)) ∧ (∀ y0 y1 y2 y3 y4 y5 y6, LeO (roadbooklaw06_TreeAll.l0 k y0 y1 y2 y3 y4 y5 y6) (roadbooklaw06_TreeAll.l0 (k + 1) y0 y1 y2 y3 y4 y5 y6)) ∧ (∀ y0 y1 y2 y3 y4 y5 y6 y7, LeO (roadbooklaw06_TreeAll.j2 k y0 y1 y2 y3 y4 y5 y6 y7) (roadbooklaw06_TreeAll.j2 (k + 1) y0 y1 y2 y3 y4 y5 y6 y7)) ∧ (∀ y0 y1 y2 y3 y4 y5 y6 y7, LeO (roadbooklaw06_TreeAll.j3 k y0 y1 y2 y3 y4 y5 y6 y7) (roadbooklaw06_TreeAll.j3 (k + 1) y0 y1 y2 y3 y4 y5 y6 y7)) ∧ (∀ y0 y1 y2 y3 y4 y5 y6, LeO (roadbooklaw06_TreeAll.l1 k y0 y1 y2 y3 y4 y5 y6) (roadbooklaw06_TreeAll.l1 (k + 1) y0 y1 y2 y3 y4 y5 y6)) ∧ (∀ y0 y1 y2 y3 y4 y5 y6 y7, LeO (roadbooklaw06_TreeAll.l2 k y0 y1 y2 y3 y4 y5 y6 y7) (roadbooklaw06_TreeAll.l2 (k + 1) y0 y1 y2 y3 y4 y5 y6 y7))
  | 0 => ⟨fun _ _ _ _ _ r h => by simp [roadbooklaw06_TreeAll.j0] at h, fun _ _ _ _ _ _ _ r h => by simp [roadbooklaw06_TreeAll.l0] at h, fun _ _ _ _ _ _ _ _ r h => by simp [roadbooklaw06_TreeAll.j2] at h, fun _ _ _ _ _ _ _ _ r h => by simp [roadbooklaw06_TreeAll.j3] at h, fun _ _ _ _ _ _ _ r h => by simp [roadbooklaw06_TreeAll.l1] at h, fun _ _ _ _ _ _ _ _ r h => by simp [roadbooklaw06_TreeAll.l2] at h⟩
  | k + 1 => by
    obtain ⟨ih0, ih1, ih2, ih3, ih4, ih5⟩ := roadbooklaw06_TreeAll.mono_l k
    refine ⟨?_, ?_, ?_, ?_, ?_, ?_⟩
    · intro y0 y1 y2 y3 y4
      unfold roadbooklaw06_TreeAll.j0
      repeat' first
      | (with_reducible exact ih0 _ _ _ _ _)
      | (with_reducible exact ih1 _ _ _ _ _ _ _)
      | (with_reducible exact ih2 _ _ _ _ _ _ _ _)
      | (with_reducible exact ih3 _ _ _ _ _ _ _ _)
      | (with_reducible exact ih4 _ _ _ _ _ _ _)
      | (with_reducible exact ih5 _ _ _ _ _ _ _ _)
      | (with_reducible exact roadbooklaw06_awake.mono _)
      | (with_reducible exact roadbookref06_Size.mono _ _ _ _)
      | (with_reducible exact tree_All.mono _ _)
      | (with_reducible exact tree_May.mono _ _ _)
      | (with_reducible exact tree_Same.mono _ _ _ _ _)
      | (with_reducible exact tree_Set.mono _ _ _)
      | (with_reducible exact tree_Text.mono _ _ _)
      | (with_reducible exact LeO.refl _)
      | (with_reducible exact LeO.none _)
      | (with_reducible refine LeO.ite ?_ ?_)
      | (with_reducible refine LeO.bind ?_ (fun _ => ?_))
      | exact ih0 _ _ _ _ _
      | exact ih1 _ _ _ _ _ _ _
      | exact ih2 _ _ _ _ _ _ _ _
      | exact ih3 _ _ _ _ _ _ _ _
      | exact ih4 _ _ _ _ _ _ _
      | exact ih5 _ _ _ _ _ _ _ _
      | exact roadbooklaw06_awake.mono _
      | exact roadbookref06_Size.mono _ _ _ _
      | exact tree_All.mono _ _
      | exact tree_May.mono _ _ _
      | exact tree_Same.mono _ _ _ _ _
      | exact tree_Set.mono _ _ _
      | exact tree_Text.mono _ _ _
      | exact LeO.none _
      | refine LeO.ite ?_ ?_
      | refine LeO.bind ?_ (fun _ => ?_)
    · intro y0 y1 y2 y3 y4 y5 y6
      unfold roadbooklaw06_TreeAll.l0
      repeat' first
      | (with_reducible exact ih0 _ _ _ _ _)
      | (with_reducible exact ih1 _ _ _ _ _ _ _)
      | (with_reducible exact ih2 _ _ _ _ _ _ _ _)
      | (with_reducible exact ih3 _ _ _ _ _ _ _ _)
      | (with_reducible exact ih4 _ _ _ _ _ _ _)
      | (with_reducible exact ih5 _ _ _ _ _ _ _ _)
      | (with_reducible exact roadbooklaw06_awake.mono _)
      | (with_reducible exact roadbookref06_Size.mono _ _ _ _)
      | (with_reducible exact tree_All.mono _ _)
      | (with_reducible exact tree_May.mono _ _ _)
      | (with_reducible exact tree_Same.mono _ _ _ _ _)
      | (with_reducible exact tree_Set.mono _ _ _)
      | (with_reducible exact tree_Text.mono _ _ _)
      | (with_reducible exact LeO.refl _)
      | (with_reducible exact LeO.none _)
      | (with_reducible refine LeO.ite ?_ ?_)
      | (with_reducible refine LeO.bind ?_ (fun _ => ?_))
      | exact ih0 _ _ _ _ _
      | exact ih1 _ _ _ _ _ _ _
      | exact ih2 _ _ _ _ _ _ _ _
      | exact ih3 _ _ _ _ _ _ _ _
      | exact ih4 _ _ _ _ _ _ _
      | exact ih5 _ _ _ _ _ _ _ _
      | exact roadbooklaw06_awake.mono _
      | exact roadbookref06_Size.mono _ _ _ _
      | exact tree_All.mono _ _
      | exact tree_May.mono _ _ _
      | exact tree_Same.mono _ _ _ _ _
      | exact tree_Set.mono _ _ _
      | exact tree_Text.mono _ _ _
      | exact LeO.none _
      | refine LeO.ite ?_ ?_
      | refine LeO.bind ?_ (fun _ => ?_)
    · intro y0 y1 y2 y3 y4 y5 y6 y7
      unfold roadbooklaw06_TreeAll.j2
      repeat' first
      | (with_reducible exact ih0 _ _ _ _ _)
      | (with_reducible exact ih1 _ _ _ _ _ _ _)
      | (with_reducible exact ih2 _ _ _ _ _ _ _ _)
      | (with_reducible exact ih3 _ _ _ _ _ _ _ _)
      | (with_reducible exact ih4 _ _ _ _ _ _ _)
      | (with_reducible exact ih5 _ _ _ _ _ _ _ _)
      | (with_reducible exact roadbooklaw06_awake.mono _)
      | (with_reducible exact roadbookref06_Size.mono _ _ _ _)
      | (with_reducible exact tree_All.mono _ _)
      | (with_reducible exact tree_May.mono _ _ _)
      | (with_reducible exact tree_Same.mono _ _ _ _ _)
      | (with_reducible exact tree_Set.mono _ _ _)
      | (with_reducible exact tree_Text.mono _ _ _)
      | (with_reducible exact LeO.refl _)
      | (with_reducible exact LeO.none _)
      | (with_reducible refine LeO.ite ?_ ?_)
      | (with_reducible refine LeO.bind ?_ (fun _ => ?_))
      | exact ih0 _ _ _ _ _
      | exact ih1 _ _ _ _ _ _ _
      | exact ih2 _ _ _ _ _ _ _ _
      | exact ih3 _ _ _ _ _ _ _ _
      | exact ih4 _ _ _ _ _ _ _
      | exact ih5 _ _ _ _ _ _ _ _
      | exact roadbooklaw06_awake.mono _
      | exact roadbookref06_Size.mono _ _ _ _
      | exact tree_All.mono _ _
      | exact tree_May.mono _ _ _
      | exact tree_Same.mono _ _ _ _ _
      | exact tree_Set.mono _ _ _
      | exact tree_Text.mono _ _ _
      | exact LeO.none _
      | refine LeO.ite ?_ ?_
      | refine LeO.bind ?_ (fun _ => ?_)
    · intro y0 y1 y2 y3 y4 y5 y6 y7
      unfold roadbooklaw06_TreeAll.j3
      repeat' first
      | (with_reducible exact ih0 _ _ _ _ _)
      | (with_reducible exact ih1 _ _ _ _ _ _ _)
      | (with_reducible exact ih2 _ _ _ _ _ _ _ _)
      | (with_reducible exact ih3 _ _ _ _ _ _ _ _)
      | (with_reducible exact ih4 _ _ _ _ _ _ _)
      | (with_reducible exact ih5 _ _ _ _ _ _ _ _)
      | (with_reducible exact roadbooklaw06_awake.mono _)
      | (with_reducible exact roadbookref06_Size.mono _ _ _ _)
      | (with_reducible exact tree_All.mono _ _)
      | (with_reducible exact tree_May.mono _ _ _)
      | (with_reducible exact tree_Same.mono _ _ _ _ _)
      | (with_reducible exact tree_Set.mono _ _ _)
      | (with_reducible exact tree_Text.mono _ _ _)
      | (with_reducible exact LeO.refl _)
      | (with_reducible exact LeO.none _)
      | (with_reducible refine LeO.ite ?_ ?_)
      | (with_reducible refine LeO.bind ?_ (fun _ => ?_))
      | exact ih0 _ _ _ _ _
      | exact ih1 _ _ _ _ _ _ _
      | exact ih2 _ _ _ _ _ _ _ _
      | exact ih3 _ _ _ _ _ _ _ _
      | exact ih4 _ _ _ _ _ _ _
      | exact ih5 _ _ _ _ _ _ _ _
      | exact roadbooklaw06_awake.mono _
      | exact roadbookref06_Size.mono _ _ _ _
      | exact tree_All.mono _ _
      | exact tree_May.mono _ _ _
      | exact tree_Same.mono _ _ _ _ _
      | exact tree_Set.mono _ _ _
      | exact tree_Text.mono _ _ _
      | exact LeO.none _
      | refine LeO.ite ?_ ?_
      | refine LeO.bind ?_ (fun _ => ?_)
    · intro y0 y1 y2 y3 y4 y5 y6
      unfold roadbooklaw06_TreeAll.l1
      repeat' first
      | (with_reducible exact ih0 _ _ _ _ _)
      | (with_reducible exact ih1 _ _ _ _ _ _ _)
      | (with_reducible exact ih2 _ _ _ _ _ _ _ _)
      | (with_reducible exact ih3 _ _ _ _ _ _ _ _)
      | (with_reducible exact ih4 _ _ _ _ _ _ _)
      | (with_reducible exact ih5 _ _ _ _ _ _ _ _)
      | (with_reducible exact roadbooklaw06_awake.mono _)
      | (with_reducible exact roadbookref06_Size.mono _ _ _ _)
      | (with_reducible exact tree_All.mono _ _)
      | (with_reducible exact tree_May.mono _ _ _)
      | (with_reducible exact tree_Same.mono _ _ _ _ _)
      | (with_reducible exact tree_Set.mono _ _ _)
      | (with_reducible exact tree_Text.mono _ _ _)
      | (with_reducible exact LeO.refl _)
      | (with_reducible exact LeO.none _)
      | (with_reducible refine LeO.ite ?_ ?_)
      | (with_reducible refine LeO.bind ?_ (fun _ => ?_))
      | exact ih0 _ _ _ _ _
      | exact ih1 _ _ _ _ _ _ _
      | exact ih2 _ _ _ _ _ _ _ _
      | exact ih3 _ _ _ _ _ _ _ _
      | exact ih4 _ _ _ _ _ _ _
      | exact ih5 _ _ _ _ _ _ _ _
      | exact roadbooklaw06_awake.mono _
      | exact roadbookref06_Size.mono _ _ _ _
      | exact tree_All.mono _ _
      | exact tree_May.mono _ _ _
      | exact tree_Same.mono _ _ _ _ _
      | exact tree_Set.mono _ _ _
      | exact tree_Text.mono _ _ _
      | exact LeO.none _
      | refine LeO.ite ?_ ?_
      | refine LeO.bind ?_ (fun _ => ?_)
    · intro y0 y1 y2 y3 y4 y5 y6 y7
      unfold roadbooklaw06_TreeAll.l2
      repeat' first
      | (with_reducible exact ih0 _ _ _ _ _)
      | (with_reducible exact ih1 _ _ _ _ _ _ _)
      | (with_reducible exact ih2 _ _ _ _ _ _ _ _)
      | (with_reducible exact ih3 _ _ _ _ _ _ _ _)
      | (with_reducible exact ih4 _ _ _ _ _ _ _)
      | (with_reducible exact ih5 _ _ _ _ _ _ _ _)
      | (with_reducible exact roadbooklaw06_awake.mono _)
      | (with_reducible exact roadbookref06_Size.mono _ _ _ _)
      | (with_reducible exact tree_All.mono _ _)
      | (with_reducible exact tree_May.mono _ _ _)
      | (with_reducible exact tree_Same.mono _ _ _ _ _)
      | (with_reducible exact tree_Set.mono _ _ _)
      | (with_reducible exact tree_Text.mono _ _ _)
      | (with_reducible exact LeO.refl _)
      | (with_reducible exact LeO.none _)
      | (with_reducible refine LeO.ite ?_ ?_)
      | (with_reducible refine LeO.bind ?_ (fun _ => ?_))
      | exact ih0 _ _ _ _ _
      | exact ih1 _ _ _ _ _ _ _
      | exact ih2 _ _ _ _ _ _ _ _
      | exact ih3 _ _ _ _ _ _ _ _
      | exact ih4 _ _ _ _ _ _ _
      | exact ih5 _ _ _ _ _ _ _ _
      | exact roadbooklaw06_awake.mono _
      | exact roadbookref06_Size.mono _ _ _ _
      | exact tree_All.mono _ _
      | exact tree_May.mono _ _ _
      | exact tree_Same.mono _ _ _ _ _
      | exact tree_Set.mono _ _ _
      | exact tree_Text.mono _ _ _
      | exact LeO.none _
      | refine LeO.ite ?_ ?_
      | refine LeO.bind ?_ (fun _ => ?_)
theorem roadbooklaw06_TreeAll.mono : ∀ a0 a1 a2 k, LeO (roadbooklaw06_TreeAll.f k a0 a1 a2) (roadbooklaw06_TreeAll.f (k + 1) a0 a1 a2) := by
  intro a0 a1 a2 k
  obtain ⟨ih0, ih1, ih2, ih3, ih4, ih5⟩ := roadbooklaw06_TreeAll.mono_l k
  unfold roadbooklaw06_TreeAll.f
  repeat' first
      | (with_reducible exact ih0 _ _ _ _ _)
      | (with_reducible exact ih1 _ _ _ _ _ _ _)
      | (with_reducible exact ih2 _ _ _ _ _ _ _ _)
      | (with_reducible exact ih3 _ _ _ _ _ _ _ _)
      | (with_reducible exact ih4 _ _ _ _ _ _ _)
      | (with_reducible exact ih5 _ _ _ _ _ _ _ _)
      | (with_reducible exact roadbooklaw06_awake.mono _)
      | (with_reducible exact roadbookref06_Size.mono _ _ _ _)
      | (with_reducible exact tree_All.mono _ _)
      | (with_reducible exact tree_May.mono _ _ _)
      | (with_reducible exact tree_Same.mono _ _ _ _ _)
      | (with_reducible exact tree_Set.mono _ _ _)
      | (with_reducible exact tree_Text.mono _ _ _)
      | (with_reducible exact LeO.refl _)
      | (with_reducible exact LeO.none _)
      | (with_reducible refine LeO.ite ?_ ?_)
      | (with_reducible refine LeO.bind ?_ (fun _ => ?_))
      | exact ih0 _ _ _ _ _
      | exact ih1 _ _ _ _ _ _ _
      | exact ih2 _ _ _ _ _ _ _ _
      | exact ih3 _ _ _ _ _ _ _ _
      | exact ih4 _ _ _ _ _ _ _
      | exact ih5 _ _ _ _ _ _ _ _
      | exact roadbooklaw06_awake.mono _
      | exact roadbookref06_Size.mono _ _ _ _
      | exact tree_All.mono _ _
      | exact tree_May.mono _ _ _
      | exact tree_Same.mono _ _ _ _ _
      | exact tree_Set.mono _ _ _
      | exact tree_Text.mono _ _ _
      | exact LeO.none _
      | refine LeO.ite ?_ ?_
      | refine LeO.bind ?_ (fun _ => ?_)
def roadbooklaw06_TreeAll.T12 : Bool × List (List Nat × List Nat) := (true, [([], []), ([0], [0]), ([1], [1]), ([2], [2]), ([2], [2]), ([3, 4, 2], [2, 3, 4]), ([5, 2], [2, 5]), ([6, 2, 2], [2, 6]), ([2], [2]), ([2], [2]), ([9, 2], [2, 9]), ([8, 10, 2], [2, 8, 10]), ([11, 2], [2, 11]), ([12, 7, 2], [2, 12]), ([7, 13, 2], [2, 7, 13]), ([2, 14], [2, 14])])
def roadbooklaw06_TreeAll.B12 : List Nat := [0, 1, 3, 7, 7, 31, 63, 127, 7, 7, 519, 1799, 3847, 8191, 16383, 32767]
theorem roadbooklaw06_TreeAll.tab12 : rtab .any (opsOf Try.f10 12) = roadbooklaw06_TreeAll.T12 := by kernel_rfl
theorem roadbooklaw06_TreeAll.bits12 : waitsOk roadbooklaw06_TreeAll.T12.2 roadbooklaw06_TreeAll.B12 = true := by kernel_rfl
def roadbooklaw06_TreeAll.T15 : Bool × List (List Nat × List Nat) := (true, [([], []), ([0], [0]), ([1], [1]), ([1], [1]), ([2, 3, 1], [1, 2, 3]), ([4, 1], [1, 4]), ([1], [1]), ([5, 6, 1, 1], [1, 5, 6]), ([1, 7], [1, 7]), ([8, 7, 0, 1, 2, 3, 4, 5, 6, 7, 8], [0, 8])])
def roadbooklaw06_TreeAll.B15 : List Nat := [0, 1, 3, 3, 15, 31, 3, 127, 255, 511]
theorem roadbooklaw06_TreeAll.tab15 : rtab .any (opsOf Try.f10 15) = roadbooklaw06_TreeAll.T15 := by kernel_rfl
theorem roadbooklaw06_TreeAll.bits15 : waitsOk roadbooklaw06_TreeAll.T15.2 roadbooklaw06_TreeAll.B15 = true := by kernel_rfl
def roadbooklaw06_TreeAll.T22 : Bool × List (List Nat × List Nat) := (true, [([], []), ([], []), ([0, 1], [0, 1]), ([2], [2]), ([], []), ([], []), ([4, 5], [4, 5]), ([6], [6]), ([3, 7], [3, 7])])
def roadbooklaw06_TreeAll.B22 : List Nat := [0, 0, 3, 7, 0, 0, 48, 112, 255]
theorem roadbooklaw06_TreeAll.tab22 : rtab .any (opsOf Try.f10 22) = roadbooklaw06_TreeAll.T22 := by kernel_rfl
theorem roadbooklaw06_TreeAll.bits22 : waitsOk roadbooklaw06_TreeAll.T22.2 roadbooklaw06_TreeAll.B22 = true := by kernel_rfl
set_option maxHeartbeats 8000000 in
set_option maxRecDepth 100000 in
theorem roadbooklaw06_TreeAll.calls (k : Nat) (a0 : Int) (a1_0 : Int) (A1_1 : Option Addr) (c1_1 : Nat) (l1_1 : List (S39)) (r : Bool) (w : World) (hr1_1 : Kd.C k39 w A1_1 l1_1.length l1_1) (hc1_1 : l1_1.length ≤ c1_1) (h : roadbooklaw06_TreeAll.f k a0 a1_0 l1_1 = some r) :
    Calls Try.prog 10 #[.int .i64 a0, .agg #[.int .i64 a1_0, .slice A1_1 l1_1.length c1_1]] w fun e w' => e = .returned (.bool r) ∧ Below w.heap.size w w' := by
  have hu39 := Try.underlying39
  have HR1_1 := Aside0.mk hr1_1
  have HC1_1 := Aside0.mk hc1_1
  clear hr1_1 hc1_1
  have HB := Aside0.mk (Below.refl w.heap.size w)
  have H : ((roadbooklaw06_awake.f k).bind fun t392 => (if t392 = true then (if a0 < 1 then (roadbooklaw06_TreeAll.j0 k a0 t392 true a1_0 l1_1) else (if a0 > 15 then (roadbooklaw06_TreeAll.j0 k a0 t392 true a1_0 l1_1) else ((roadbookref06_Size.f k a1_0 l1_1 100).bind fun t393 => (roadbooklaw06_TreeAll.j0 k a0 t392 (decide (t393 > 100)) a1_0 l1_1)))) else (roadbooklaw06_TreeAll.j0 k a0 t392 true a1_0 l1_1))) = some r := h
  clear h
  replace H := Option.bind_eq_some_iff.mp H
  obtain ⟨t392, A30, H⟩ := H
  replace H : (if t392 = true then (if a0 < 1 then (roadbooklaw06_TreeAll.j0 k a0 t392 true a1_0 l1_1) else (if a0 > 15 then (roadbooklaw06_TreeAll.j0 k a0 t392 true a1_0 l1_1) else ((roadbookref06_Size.f k a1_0 l1_1 100).bind fun t393 => (roadbooklaw06_TreeAll.j0 k a0 t392 (decide (t393 > 100)) a1_0 l1_1)))) else (roadbooklaw06_TreeAll.j0 k a0 t392 true a1_0 l1_1)) = some r := H
  have A3 := Aside0.mk A30
  clear A30
  have HC4 := Aside0.mk H
  clear H
  go_enter Try.func10, Try.ntmps10
  go_upto_region 2 with (first | ((with_reducible refine gate_dst (N := 3) rfl ?_); (try (refine gate_guard (by rfl) ?_; dsimp only)); refine box_event ?hg (N := 3) ?hd (cs := #[.int .i64 a1_0, .slice A1_1 l1_1.length c1_1]) (t := 39) ?hr ?_; (case hd => rfl); (case hg => rfl); (case hr => first | (go_simp; done) | (go_simp; rfl)); intro gb391 hg w5 hbox hb; have n0_ := Aside0.mk (below_step (by repeat (first | (with_reducible first | exact HB.out | apply below_alloc | apply pw_below_drewN | apply below_drew1) | exact HB.out)) hb); have n1_ := Aside0.mk (hbox); have n2_ := Aside0.mk ((by rw [hg]; exact (below_size (by repeat (first | (with_reducible first | exact HB.out | apply below_alloc | apply pw_below_drewN | apply below_drew1) | exact HB.out))) : w.heap.size ≤ gb391)); have n3_ := Aside0.mk ((by rw [hg]; exact (below_size (by repeat (first | (with_reducible first | exact HB.out | apply below_alloc | apply pw_below_drewN | apply below_drew1) | exact HB.out))) : w.heap.size ≤ gb391)); clear HB; have HB := n0_; have BK391 := n1_; have GW391 := n2_; have GE391 := n3_; clear n0_ n1_ n2_ n3_; clear hb hbox hg) | ((with_reducible refine gate_callee (f := 29) rfl ?_); refine goesL_ (some 14) rfl rfl Try.func29 (by kernel_rfl) rfl #[] rfl (by (try simp only [List.map_toArray, List.map_cons, List.map_nil]); first | done | rfl | (simp only [List.length_drop, List.length_take]; rfl)) ?_; (with_reducible refine (roadbooklaw06_awake.calls k  t392 _ A3.out).mono ?_); rintro e w6 ⟨rfl, hb⟩; refine ⟨_, rfl, ?_⟩; have n0_ := Aside0.mk (blk_below (g := gb391) (o := .cells #[.int .i64 a1_0, .slice A1_1 l1_1.length c1_1] 39 (0, 0)) (by (with_reducible repeat (first | refine blk_drewN ?_ _ | refine blk_drew ?_ | refine blk_alloc ?_ _)); exact BK391.out) hb); have n1_ := Aside0.mk (below_step (by repeat (first | (with_reducible first | exact HB.out | apply below_alloc | apply pw_below_drewN | apply below_drew1 | refine below_set ?_ GE391.out) | exact HB.out)) hb); clear BK391; clear HB; have BK391 := n0_; have HB := n1_; clear n0_ n1_; (try clear hb); (try clear hb2); (try clear hk); (try clear hi)))
  (try simp only [Act.put, List.setIfInBounds_toArray, List.set_cons_zero, List.set_cons_succ])
  go_cut [29] (fun v29 wc => ∃ (kq : Nat) (x29_3 : Bool), v29 = .bool x29_3 ∧ Aside0 (roadbooklaw06_TreeAll.j0 kq a0 t392 x29_3 a1_0 l1_1 = some r) ∧ Aside0 (kq ≤ k) ∧ Aside0 (wc.heap[gb391]? = some (.cells #[.int .i64 a1_0, (.slice A1_1 l1_1.length c1_1)] 39 (0, 0))) ∧ Aside0 (Below w.heap.size w wc))
  case first =>
    have H := HC4.out
    clear HC4
    by_cases c7 : t392 = true
    · subst c7
      have H1 : (if a0 < 1 then (roadbooklaw06_TreeAll.j0 k a0 true true a1_0 l1_1) else (if a0 > 15 then (roadbooklaw06_TreeAll.j0 k a0 true true a1_0 l1_1) else ((roadbookref06_Size.f k a1_0 l1_1 100).bind fun t393 => (roadbooklaw06_TreeAll.j0 k a0 true (decide (t393 > 100)) a1_0 l1_1)))) = some r := by rw [if_pos rfl] at H; exact H
      clear H
      have H := H1
      clear H1
      by_cases c8 : a0 < 1
      · rw [if_pos c8] at H
        have c8b0 : decide (a0 < 1) = true := decide_eq_true c8
        clear c8
        (first | rw [c8b0] | (simp only [i64_w, i32_w]; rw [c8b0]) | skip)
        have H' := Aside0.mk H
        clear H
        go_wp2
        go_meet
        case rel => exact ⟨_, (true), (by first | rfl | (simp; done) | (simp [*]; done)), H', ⟨by first | omega | exact Nat.le_refl _⟩, ⟨by (with_reducible repeat (first | refine blk_drewN ?_ _ | refine blk_drew ?_ | refine blk_alloc ?_ _)); exact BK391.out⟩, ⟨by repeat (first | (with_reducible first | exact HB.out | apply below_alloc | apply pw_below_drewN | apply below_drew1 | refine below_set ?_ GE391.out) | exact HB.out)⟩⟩
      · rw [if_neg c8] at H
        have c8b0 : decide (a0 < 1) = false := decide_eq_false c8
        clear c8
        (first | rw [c8b0] | (simp only [i64_w, i32_w]; rw [c8b0]) | skip)
        by_cases c9 : a0 > 15
        · rw [if_pos c9] at H
          have c9b0 : decide (15 < a0) = true := decide_eq_true c9
          clear c9
          have H' := Aside0.mk H
          clear H
          go_wp2
          go_meet
          case rel => exact ⟨_, (true), (by first | rfl | (simp; done) | (simp [*]; done)), H', ⟨by first | omega | exact Nat.le_refl _⟩, ⟨by (with_reducible repeat (first | refine blk_drewN ?_ _ | refine blk_drew ?_ | refine blk_alloc ?_ _)); exact BK391.out⟩, ⟨by repeat (first | (with_reducible first | exact HB.out | apply below_alloc | apply pw_below_drewN | apply below_drew1 | refine below_set ?_ GE391.out) | exact HB.out)⟩⟩
        · rw [if_neg c9] at H
          have c9b0 : decide (15 < a0) = false := decide_eq_false c9
          clear c9
          replace H := Option.bind_eq_some_iff.mp H
          obtain ⟨t393, A100, H⟩ := H
          replace H : (roadbooklaw06_TreeAll.j0 k a0 true (decide (t393 > 100)) a1_0 l1_1) = some r := H
          have A10 := Aside0.mk A100
          clear A100
          have H' := Aside0.mk H
          clear H
          have hcz11_0 : w6.cell? ⟨gb391, 0, none⟩ = some (.int .i64 a1_0) := (blk_cell BK391.out 0).trans rfl
          have hcz11_1 : w6.cell? ⟨gb391, 1, none⟩ = some (.slice A1_1 l1_1.length c1_1) := (blk_cell BK391.out 1).trans rfl
          have hfz11_0 := blk_frozen BK391.out 0
          have hfz11_1 := blk_frozen BK391.out 1
          go_wp2_with (first | (go_at_call 30; (with_reducible refine (roadbookref06_Size.calls k a1_0 _ _ l1_1 100 t393 _ ?side1 ?side2 A10.out).mono ?_); (case side1 => repeat (first | exact (Kd.C_below HR1_1.out HB.out) | (with_reducible refine Kd.C_alloc ?_ _) | (with_reducible refine Kd.C_drewN ?_ _) | (with_reducible refine Kd.C_drew ?_))); (case side2 => exact HC1_1.out); rintro e w12 ⟨rfl, hb⟩; have n0_ := Aside0.mk (blk_below (g := gb391) (o := .cells #[.int .i64 a1_0, .slice A1_1 l1_1.length c1_1] 39 (0, 0)) (by (with_reducible repeat (first | refine blk_drewN ?_ _ | refine blk_drew ?_ | refine blk_alloc ?_ _)); exact BK391.out) hb); have n1_ := Aside0.mk (below_step (by repeat (first | (with_reducible first | exact HB.out | apply below_alloc | apply pw_below_drewN | apply below_drew1 | refine below_set ?_ GE391.out) | exact HB.out)) hb); clear BK391; clear HB; have BK391 := n0_; have HB := n1_; clear n0_ n1_; (try clear hb); (try clear hb2); (try clear hk); (try clear hi)))
          go_meet
          case rel => exact ⟨_, (decide (t393 > 100)), (by first | rfl | (simp; done) | (simp [*]; done)), H', ⟨by first | omega | exact Nat.le_refl _⟩, ⟨by (with_reducible repeat (first | refine blk_drewN ?_ _ | refine blk_drew ?_ | refine blk_alloc ?_ _)); exact BK391.out⟩, ⟨by repeat (first | (with_reducible first | exact HB.out | apply below_alloc | apply pw_below_drewN | apply below_drew1 | refine below_set ?_ GE391.out) | exact HB.out)⟩⟩
    · replace c7 := Bool.eq_false_iff.mpr c7
      subst c7
      have H1 : (roadbooklaw06_TreeAll.j0 k a0 false true a1_0 l1_1) = some r := by rw [if_neg (show ¬ (false = true) by decide)] at H; exact H
      clear H
      have H := H1
      clear H1
      have H' := Aside0.mk H
      clear H
      go_wp2
      go_meet
      case rel => exact ⟨_, (true), (by first | rfl | (simp; done) | (simp [*]; done)), H', ⟨by first | omega | exact Nat.le_refl _⟩, ⟨by (with_reducible repeat (first | refine blk_drewN ?_ _ | refine blk_drew ?_ | refine blk_alloc ?_ _)); exact BK391.out⟩, ⟨by repeat (first | (with_reducible first | exact HB.out | apply below_alloc | apply pw_below_drewN | apply below_drew1 | refine below_set ?_ GE391.out) | exact HB.out)⟩⟩
  case rest =>
    clear HC4
    try clear c1
    try clear c2
    try clear p2
    try clear c7
    try clear c8
    try clear c8b0
    try clear c9
    try clear c9b0
    try clear c10
    try clear hcz11_0
    try clear hcz11_1
    try clear hfz11_0
    try clear hfz11_1
    obtain ⟨kq, x29_3, rfl, HA, HJ3, BK391, HB⟩ := hcut
    cases kq with
    | zero => exact absurd HA.out (by simp [roadbooklaw06_TreeAll.j0])
    | succ kj3 =>
      have H := HA.out
      clear HA
      simp only [roadbooklaw06_TreeAll.j0] at H
      by_cases c13 : x29_3 = true
      · subst c13
        have H1 : (some t392) = some r := by rw [if_pos rfl] at H; exact H
        clear H
        have H := H1
        clear H1
        obtain rfl := Option.some.inj H
        go_wp2
        go_ret
        exact ⟨by first | rfl | (simp [errW_none, errW_some] <;> rfl) | (simp [*, errW_none, errW_some] <;> rfl) | (clear HB; simp only [aside0_iff] at *; simp_all; done), by repeat (first | (with_reducible first | exact HB.out | apply below_alloc | apply pw_below_drewN | apply below_drew1 | refine below_set ?_ GE391.out) | exact HB.out)⟩
      · replace c13 := Bool.eq_false_iff.mpr c13
        subst c13
        have H1 : ((tree_All.f kj3 a0).bind fun t394 => (roadbooklaw06_TreeAll.l0 kj3 a0 t394 false (⟨#[]⟩ : ByteArray) 0 a1_0 l1_1)) = some r := by rw [if_neg (show ¬ (false = true) by decide)] at H; exact H
        clear H
        have H := H1
        clear H1
        replace H := Option.bind_eq_some_iff.mp H
        obtain ⟨t394, A140, H⟩ := H
        replace H : (roadbooklaw06_TreeAll.l0 kj3 a0 t394 false (⟨#[]⟩ : ByteArray) 0 a1_0 l1_1) = some r := H
        have A14 := Aside0.mk A140
        clear A140
        have H' := Aside0.mk H
        clear H
        go_wp2_with (first | ((with_reducible refine gate_callee (f := 47) rfl ?_); refine goesL_ (some 32) rfl rfl Try.func47 (by kernel_rfl) rfl #[.int .i64 a0] rfl (by (try simp only [List.map_toArray, List.map_cons, List.map_nil]); first | done | rfl | (simp only [List.length_drop, List.length_take]; rfl)) ?_; (with_reducible refine (tree_All.calls kj3 a0 t394 _ A14.out).mono ?_); rintro e w15 ⟨v395, rfl, ho0, hb⟩; refine ⟨_, rfl, ?_⟩; have n0_ := Aside0.mk (Kd.N_lower (Kd.N_mono (ok' := fun k_ => k_ ≠ gb391) ho0 (fun k_ hk_ => (Kd.freshB (g := gb391) (o := .cells #[.int .i64 a1_0, .slice A1_1 l1_1.length c1_1] 39 (0, 0)) (by (with_reducible repeat (first | refine blk_drewN ?_ _ | refine blk_drew ?_ | refine blk_alloc ?_ _)); exact BK391.out) k_ hk_))) (below_size (by repeat (first | (with_reducible first | exact HB.out | apply below_alloc | apply pw_below_drewN | apply below_drew1 | refine below_set ?_ GE391.out) | exact HB.out)))); have n1_ := Aside0.mk (blk_below (g := gb391) (o := .cells #[.int .i64 a1_0, .slice A1_1 l1_1.length c1_1] 39 (0, 0)) (by (with_reducible repeat (first | refine blk_drewN ?_ _ | refine blk_drew ?_ | refine blk_alloc ?_ _)); exact BK391.out) hb); have n2_ := Aside0.mk (below_step (by repeat (first | (with_reducible first | exact HB.out | apply below_alloc | apply pw_below_drewN | apply below_drew1 | refine below_set ?_ GE391.out) | exact HB.out)) hb); clear BK391; clear HB; have HO396 := n0_; have BK391 := n1_; have HB := n2_; clear n0_ n1_ n2_; (try clear hb); (try clear hb2); (try clear hk); (try clear hi); (try clear ho0)))
        go_loopg [7, 8, 9] kj3 (fun kq v7 v8 v9 w' => ∃ (x7_2 : Bool) (x8_2 : ByteArray) (x9_2 : Int), v7 = .bool x7_2 ∧ v8 = .string x8_2 ∧ v9 = .int .i64 x9_2 ∧ Aside0 (roadbooklaw06_TreeAll.l0 kq a0 t394 x7_2 x8_2 x9_2 a1_0 l1_1 = some r) ∧ Aside0 (kq ≤ kj3) ∧ Aside0 (Kd.N k39 39 w' w.heap.size (fun k_ => k_ ≠ gb391) v395 t394) ∧ Aside0 (w'.heap[gb391]? = some (.cells #[.int .i64 a1_0, (.slice A1_1 l1_1.length c1_1)] 39 (0, 0))) ∧ Aside0 (Below w.heap.size w w'))
        case atStart => exact ⟨(false), ((⟨#[]⟩ : ByteArray)), (0), (by first | rfl | (simp; done) | (simp [*]; done)), (by first | rfl | (simp; done) | (simp [*]; done)), (by first | rfl | (simp; done) | (simp [*]; done)), H', ⟨Nat.le_refl _⟩, ⟨by (with_reducible repeat (first | apply Kd.N_alloc | apply Kd.N_drewN | apply Kd.N_drew)); exact HO396.out⟩, ⟨by (with_reducible repeat (first | refine blk_drewN ?_ _ | refine blk_drew ?_ | refine blk_alloc ?_ _)); exact BK391.out⟩, ⟨by repeat (first | (with_reducible first | exact HB.out | apply below_alloc | apply pw_below_drewN | apply below_drew1 | refine below_set ?_ GE391.out) | exact HB.out)⟩⟩
        case round =>
          clear H'
          try clear c1
          try clear c2
          try clear p2
          try clear c4
          try clear c7
          try clear c8
          try clear c8b0
          try clear c9
          try clear c9b0
          try clear c10
          try clear c13
          try clear hcz11_0
          try clear hcz11_1
          try clear hfz11_0
          try clear hfz11_1
          try clear p2
          obtain ⟨x7_2, x8_2, x9_2, rfl, rfl, rfl, HA, HK2, HO_6, BK391, HB⟩ := hrel
          cases gk with
          | zero => exact absurd HA.out (by simp [roadbooklaw06_TreeAll.l0])
          | succ k2 =>
            have H := HA.out
            clear HA
            simp only [roadbooklaw06_TreeAll.l0] at H
            by_cases c16 : x9_2 < (t394.length : Int)
            · rw [if_pos c16] at H
              have c16b0 : decide (x9_2 < (t394.length : Int)) = true := decide_eq_true c16
              clear c16
              have HC17 := Aside0.mk H
              clear H
              obtain ⟨Ao18, co18, eo18⟩ := Kd.N_slice HO_6.out
              subst eo18
              go_upto_region 10 with (fail)
              go_cut [53] (fun v53 wc => ∃ (kq : Nat) (x53_16 : Bool), v53 = .bool x53_16 ∧ Aside0 (roadbooklaw06_TreeAll.j2 kq a0 t394 x7_2 x8_2 x9_2 x53_16 a1_0 l1_1 = some r) ∧ Aside0 (kq ≤ k2) ∧ Aside0 (Kd.N k39 39 wc w.heap.size (fun k_ => k_ ≠ gb391) (.slice Ao18 t394.length co18) t394) ∧ Aside0 (wc.heap[gb391]? = some (.cells #[.int .i64 a1_0, (.slice A1_1 l1_1.length c1_1)] 39 (0, 0))) ∧ Aside0 (Below w.heap.size w wc))
              case first =>
                have H := HC17.out
                clear HC17
                by_cases c19 : 0 ≤ x9_2
                · rw [if_pos c19] at H
                  have c19b0 : decide (0 ≤ x9_2) = true := decide_eq_true c19
                  clear c19
                  (first | rw [c19b0] | (simp only [i64_w, i32_w]; rw [c19b0]) | skip)
                  replace H := Option.bind_eq_some_iff.mp H
                  obtain ⟨t398, A200, H⟩ := H
                  replace H : (if t398 = true then ((tree_Set.f k2 ((rd_T39 t394 x9_2).f0) ((rd_T39 t394 x9_2).f1)).bind fun t400 => (roadbooklaw06_TreeAll.j2 k2 a0 t394 x7_2 x8_2 x9_2 (t400 != a0) a1_0 l1_1)) else (roadbooklaw06_TreeAll.j2 k2 a0 t394 x7_2 x8_2 x9_2 true a1_0 l1_1)) = some r := H
                  have A20 := Aside0.mk A200
                  clear A200
                  by_cases c21 : t398 = true
                  · subst c21
                    have H1 : ((tree_Set.f k2 ((rd_T39 t394 x9_2).f0) ((rd_T39 t394 x9_2).f1)).bind fun t400 => (roadbooklaw06_TreeAll.j2 k2 a0 t394 x7_2 x8_2 x9_2 (t400 != a0) a1_0 l1_1)) = some r := by rw [if_pos rfl] at H; exact H
                    clear H
                    have H := H1
                    clear H1
                    replace H := Option.bind_eq_some_iff.mp H
                    obtain ⟨t400, A220, H⟩ := H
                    replace H : (roadbooklaw06_TreeAll.j2 k2 a0 t394 x7_2 x8_2 x9_2 (t400 != a0) a1_0 l1_1) = some r := H
                    have A22 := Aside0.mk A220
                    clear A220
                    have H' := Aside0.mk H
                    clear H
                    have p397 : 0 ≤ (x9_2 : Int) := of_decide_eq_true (by first | (with_reducible assumption) | assumption)
                    have q397 : x9_2 < (t394.length : Int) := of_decide_eq_true (by first | (with_reducible assumption) | assumption)
                    obtain ⟨ad397, A397_1, c397_1, e397, hx397_0, hx397_1, hl397_1, hi397_1⟩ := at_T39 (Kd.N_reads' HO_6.out).2.2 x9_2 p397 q397
                    cases e397
                    obtain ⟨ce397, hce397, hMe397, hcc397⟩ := Kd.N_get HO_6.out z39 x9_2 p397 (by first | exact q397 | exact of_decide_eq_true (by first | (with_reducible assumption) | assumption) | (have e_ := (Kd.N_reads' HO_6.out).1; omega))
                    obtain ⟨ua397_1, uc397_1, rfl, ul397_1, ge397_1⟩ := k39_openF hMe397
                    have hv397_1 := hcc397 1 _ rfl
                    rw [add_field _ _ 1 (by omega)] at hv397_1
                    replace hv397_1 := Option.some.inj (hv397_1.symm.trans hx397_1)
                    injection hv397_1 with hva_ hvn_ hvc_
                    rw [hva_] at ge397_1
                    rw [hvc_] at ul397_1
                    have HL397_1 := Aside0.mk (show Kd.V k39 39 _ w.heap.size _ _ ((rd_T39 t394 x9_2).f1) from Kd.V_mk ul397_1 ge397_1)
                    clear hva_ hvn_ hvc_ ge397_1 ul397_1
                    clear hcc397 hce397
                    have HR397_1 := Aside0.mk hi397_1
                    have HC397_1 := Aside0.mk hl397_1
                    clear hi397_1 hl397_1
                    replace p397 := eq_true p397
                    replace q397 := eq_true q397
                    go_wp2_with (first | ((with_reducible refine gate_callee (f := 33) rfl ?_); refine goesL_ (some 43) rfl rfl Try.func33 (by kernel_rfl) rfl #[.agg #[.int .i64 ((rd_T39 t394 x9_2).f0), .slice A397_1 ((rd_T39 t394 x9_2).f1).length c397_1]] rfl (by (try simp only [List.map_toArray, List.map_cons, List.map_nil]); first | done | rfl | (simp only [List.length_drop, List.length_take]; rfl)) ?_; (with_reducible refine (tree_May.calls k2 ((rd_T39 t394 x9_2).f0) _ _ ((rd_T39 t394 x9_2).f1) true _ ?side1 ?side2 A20.out).mono ?_); (case side1 => repeat (first | exact (by repeat (first | (with_reducible exact HR397_1.out) | (with_reducible refine Kd.C_alloc ?_ _) | (with_reducible refine Kd.C_drewN ?_ _) | (with_reducible refine Kd.C_drew ?_) | exact HR397_1.out | exact Kd.F_now (Kd.V_at HL397_1.out).2.2)) | (with_reducible refine Kd.C_alloc ?_ _) | (with_reducible refine Kd.C_drewN ?_ _) | (with_reducible refine Kd.C_drew ?_))); (case side2 => exact HC397_1.out); rintro e w23 ⟨rfl, hb⟩; refine ⟨_, rfl, ?_⟩; have n0_ := Aside0.mk (Kd.N_below (by (with_reducible repeat (first | apply Kd.N_alloc | apply Kd.N_drewN | apply Kd.N_drew)); exact HO_6.out) hb); have n1_ := Aside0.mk (Kd.V_below (by (with_reducible repeat (first | apply Kd.V_alloc | apply Kd.V_drewN | apply Kd.V_drew)); exact HL397_1.out) hb); have n2_ := Aside0.mk (blk_below (g := gb391) (o := .cells #[.int .i64 a1_0, .slice A1_1 l1_1.length c1_1] 39 (0, 0)) (by (with_reducible repeat (first | refine blk_drewN ?_ _ | refine blk_drew ?_ | refine blk_alloc ?_ _)); exact BK391.out) hb); have n3_ := Aside0.mk (Kd.C_below (by repeat (first | (with_reducible exact HR397_1.out) | (with_reducible refine Kd.C_alloc ?_ _) | (with_reducible refine Kd.C_drewN ?_ _) | (with_reducible refine Kd.C_drew ?_) | exact HR397_1.out | exact Kd.F_now (Kd.V_at HL397_1.out).2.2)) hb); have n4_ := Aside0.mk (below_step (by repeat (first | (with_reducible first | exact HB.out | apply below_alloc | apply pw_below_drewN | apply below_drew1 | refine below_set ?_ GE391.out) | exact HB.out)) hb); clear HO_6; clear HL397_1; clear BK391; clear HR397_1; clear HB; have HO_6 := n0_; have HL397_1 := n1_; have BK391 := n2_; have HR397_1 := n3_; have HB := n4_; clear n0_ n1_ n2_ n3_ n4_; (try clear hb); (try clear hb2); (try clear hk); (try clear hi); have p399 : 0 ≤ (x9_2 : Int) := of_decide_eq_true (by first | (with_reducible assumption) | assumption); have q399 : x9_2 < (t394.length : Int) := of_decide_eq_true (by first | (with_reducible assumption) | assumption); obtain ⟨ad399, A399_1, c399_1, e399, hx399_0, hx399_1, hl399_1, hi399_1⟩ := at_T39 (Kd.N_reads' HO_6.out).2.2 x9_2 p399 q399; obtain rfl : ad397 = ad399 := (by injection e399); obtain ⟨ce399, hce399, hMe399, hcc399⟩ := Kd.N_get HO_6.out z39 x9_2 p399 (by first | exact q399 | exact of_decide_eq_true (by first | (with_reducible assumption) | assumption) | (have e_ := (Kd.N_reads' HO_6.out).1; omega)); obtain ⟨ua399_1, uc399_1, rfl, ul399_1, ge399_1⟩ := k39_openF hMe399; have hv399_1 := hcc399 1 _ rfl; rw [add_field _ _ 1 (by omega)] at hv399_1; replace hv399_1 := Option.some.inj (hv399_1.symm.trans hx399_1); injection hv399_1 with hva_ hvn_ hvc_; rw [hva_] at ge399_1; rw [hvc_] at ul399_1; have HL399_1 := Aside0.mk (show Kd.V k39 39 _ w.heap.size _ _ ((rd_T39 t394 x9_2).f1) from Kd.V_mk ul399_1 ge399_1); clear hva_ hvn_ hvc_ ge399_1 ul399_1; clear hcc399 hce399; have HR399_1 := Aside0.mk hi399_1; have HC399_1 := Aside0.mk hl399_1; clear hi399_1 hl399_1; replace p399 := eq_true p399; replace q399 := eq_true q399) | (go_at_call 35; (with_reducible refine (tree_Set.calls k2 ((rd_T39 t394 x9_2).f0) _ _ ((rd_T39 t394 x9_2).f1) t400 _ ?side1 ?side2 A22.out).mono ?_); (case side1 => repeat (first | exact (by repeat (first | (with_reducible exact HR399_1.out) | (with_reducible refine Kd.C_alloc ?_ _) | (with_reducible refine Kd.C_drewN ?_ _) | (with_reducible refine Kd.C_drew ?_) | exact HR399_1.out | exact Kd.F_now (Kd.V_at HL399_1.out).2.2)) | (with_reducible refine Kd.C_alloc ?_ _) | (with_reducible refine Kd.C_drewN ?_ _) | (with_reducible refine Kd.C_drew ?_))); (case side2 => exact HC399_1.out); rintro e w24 ⟨rfl, hb⟩; have n0_ := Aside0.mk (Kd.N_below (by (with_reducible repeat (first | apply Kd.N_alloc | apply Kd.N_drewN | apply Kd.N_drew)); exact HO_6.out) hb); have n1_ := Aside0.mk (Kd.V_below (by (with_reducible repeat (first | apply Kd.V_alloc | apply Kd.V_drewN | apply Kd.V_drew)); exact HL397_1.out) hb); have n2_ := Aside0.mk (Kd.V_below (by (with_reducible repeat (first | apply Kd.V_alloc | apply Kd.V_drewN | apply Kd.V_drew)); exact HL399_1.out) hb); have n3_ := Aside0.mk (blk_below (g := gb391) (o := .cells #[.int .i64 a1_0, .slice A1_1 l1_1.length c1_1] 39 (0, 0)) (by (with_reducible repeat (first | refine blk_drewN ?_ _ | refine blk_drew ?_ | refine blk_alloc ?_ _)); exact BK391.out) hb); have n4_ := Aside0.mk (Kd.C_below (by repeat (first | (with_reducible exact HR397_1.out) | (with_reducible refine Kd.C_alloc ?_ _) | (with_reducible refine Kd.C_drewN ?_ _) | (with_reducible refine Kd.C_drew ?_) | exact HR397_1.out | exact Kd.F_now (Kd.V_at HL397_1.out).2.2)) hb); have n5_ := Aside0.mk (Kd.C_below (by repeat (first | (with_reducible exact HR399_1.out) | (with_reducible refine Kd.C_alloc ?_ _) | (with_reducible refine Kd.C_drewN ?_ _) | (with_reducible refine Kd.C_drew ?_) | exact HR399_1.out | exact Kd.F_now (Kd.V_at HL399_1.out).2.2)) hb); have n6_ := Aside0.mk (below_step (by repeat (first | (with_reducible first | exact HB.out | apply below_alloc | apply pw_below_drewN | apply below_drew1 | refine below_set ?_ GE391.out) | exact HB.out)) hb); clear HO_6; clear HL397_1; clear HL399_1; clear BK391; clear HR397_1; clear HR399_1; clear HB; have HO_6 := n0_; have HL397_1 := n1_; have HL399_1 := n2_; have BK391 := n3_; have HR397_1 := n4_; have HR399_1 := n5_; have HB := n6_; clear n0_ n1_ n2_ n3_ n4_ n5_ n6_; (try clear hb); (try clear hb2); (try clear hk); (try clear hi)))
                    go_meet
                    case rel => exact ⟨_, ((t400 != a0)), (by first | rfl | (simp; done) | (simp [*]; done)), H', ⟨by have := HJ3.out; have := HK2.out; first | omega | exact Nat.le_refl _⟩, ⟨by (with_reducible repeat (first | apply Kd.N_alloc | apply Kd.N_drewN | apply Kd.N_drew)); exact HO_6.out⟩, ⟨by (with_reducible repeat (first | refine blk_drewN ?_ _ | refine blk_drew ?_ | refine blk_alloc ?_ _)); exact BK391.out⟩, ⟨by repeat (first | (with_reducible first | exact HB.out | apply below_alloc | apply pw_below_drewN | apply below_drew1 | refine below_set ?_ GE391.out) | exact HB.out)⟩⟩
                  · replace c21 := Bool.eq_false_iff.mpr c21
                    subst c21
                    have H1 : (roadbooklaw06_TreeAll.j2 k2 a0 t394 x7_2 x8_2 x9_2 true a1_0 l1_1) = some r := by rw [if_neg (show ¬ (false = true) by decide)] at H; exact H
                    clear H
                    have H := H1
                    clear H1
                    have H' := Aside0.mk H
                    clear H
                    have p397 : 0 ≤ (x9_2 : Int) := of_decide_eq_true (by first | (with_reducible assumption) | assumption)
                    have q397 : x9_2 < (t394.length : Int) := of_decide_eq_true (by first | (with_reducible assumption) | assumption)
                    obtain ⟨ad397, A397_1, c397_1, e397, hx397_0, hx397_1, hl397_1, hi397_1⟩ := at_T39 (Kd.N_reads' HO_6.out).2.2 x9_2 p397 q397
                    cases e397
                    obtain ⟨ce397, hce397, hMe397, hcc397⟩ := Kd.N_get HO_6.out z39 x9_2 p397 (by first | exact q397 | exact of_decide_eq_true (by first | (with_reducible assumption) | assumption) | (have e_ := (Kd.N_reads' HO_6.out).1; omega))
                    obtain ⟨ua397_1, uc397_1, rfl, ul397_1, ge397_1⟩ := k39_openF hMe397
                    have hv397_1 := hcc397 1 _ rfl
                    rw [add_field _ _ 1 (by omega)] at hv397_1
                    replace hv397_1 := Option.some.inj (hv397_1.symm.trans hx397_1)
                    injection hv397_1 with hva_ hvn_ hvc_
                    rw [hva_] at ge397_1
                    rw [hvc_] at ul397_1
                    have HL397_1 := Aside0.mk (show Kd.V k39 39 _ w.heap.size _ _ ((rd_T39 t394 x9_2).f1) from Kd.V_mk ul397_1 ge397_1)
                    clear hva_ hvn_ hvc_ ge397_1 ul397_1
                    clear hcc397 hce397
                    have HR397_1 := Aside0.mk hi397_1
                    have HC397_1 := Aside0.mk hl397_1
                    clear hi397_1 hl397_1
                    replace p397 := eq_true p397
                    replace q397 := eq_true q397
                    go_wp2_with (first | ((with_reducible refine gate_callee (f := 33) rfl ?_); refine goesL_ (some 43) rfl rfl Try.func33 (by kernel_rfl) rfl #[.agg #[.int .i64 ((rd_T39 t394 x9_2).f0), .slice A397_1 ((rd_T39 t394 x9_2).f1).length c397_1]] rfl (by (try simp only [List.map_toArray, List.map_cons, List.map_nil]); first | done | rfl | (simp only [List.length_drop, List.length_take]; rfl)) ?_; (with_reducible refine (tree_May.calls k2 ((rd_T39 t394 x9_2).f0) _ _ ((rd_T39 t394 x9_2).f1) false _ ?side1 ?side2 A20.out).mono ?_); (case side1 => repeat (first | exact (by repeat (first | (with_reducible exact HR397_1.out) | (with_reducible refine Kd.C_alloc ?_ _) | (with_reducible refine Kd.C_drewN ?_ _) | (with_reducible refine Kd.C_drew ?_) | exact HR397_1.out | exact Kd.F_now (Kd.V_at HL397_1.out).2.2)) | (with_reducible refine Kd.C_alloc ?_ _) | (with_reducible refine Kd.C_drewN ?_ _) | (with_reducible refine Kd.C_drew ?_))); (case side2 => exact HC397_1.out); rintro e w25 ⟨rfl, hb⟩; refine ⟨_, rfl, ?_⟩; have n0_ := Aside0.mk (Kd.N_below (by (with_reducible repeat (first | apply Kd.N_alloc | apply Kd.N_drewN | apply Kd.N_drew)); exact HO_6.out) hb); have n1_ := Aside0.mk (Kd.V_below (by (with_reducible repeat (first | apply Kd.V_alloc | apply Kd.V_drewN | apply Kd.V_drew)); exact HL397_1.out) hb); have n2_ := Aside0.mk (blk_below (g := gb391) (o := .cells #[.int .i64 a1_0, .slice A1_1 l1_1.length c1_1] 39 (0, 0)) (by (with_reducible repeat (first | refine blk_drewN ?_ _ | refine blk_drew ?_ | refine blk_alloc ?_ _)); exact BK391.out) hb); have n3_ := Aside0.mk (Kd.C_below (by repeat (first | (with_reducible exact HR397_1.out) | (with_reducible refine Kd.C_alloc ?_ _) | (with_reducible refine Kd.C_drewN ?_ _) | (with_reducible refine Kd.C_drew ?_) | exact HR397_1.out | exact Kd.F_now (Kd.V_at HL397_1.out).2.2)) hb); have n4_ := Aside0.mk (below_step (by repeat (first | (with_reducible first | exact HB.out | apply below_alloc | apply pw_below_drewN | apply below_drew1 | refine below_set ?_ GE391.out) | exact HB.out)) hb); clear HO_6; clear HL397_1; clear BK391; clear HR397_1; clear HB; have HO_6 := n0_; have HL397_1 := n1_; have BK391 := n2_; have HR397_1 := n3_; have HB := n4_; clear n0_ n1_ n2_ n3_ n4_; (try clear hb); (try clear hb2); (try clear hk); (try clear hi)))
                    go_meet
                    case rel => exact ⟨_, (true), (by first | rfl | (simp; done) | (simp [*]; done)), H', ⟨by have := HJ3.out; have := HK2.out; first | omega | exact Nat.le_refl _⟩, ⟨by (with_reducible repeat (first | apply Kd.N_alloc | apply Kd.N_drewN | apply Kd.N_drew)); exact HO_6.out⟩, ⟨by (with_reducible repeat (first | refine blk_drewN ?_ _ | refine blk_drew ?_ | refine blk_alloc ?_ _)); exact BK391.out⟩, ⟨by repeat (first | (with_reducible first | exact HB.out | apply below_alloc | apply pw_below_drewN | apply below_drew1 | refine below_set ?_ GE391.out) | exact HB.out)⟩⟩
                · rw [if_neg c19] at H
                  exact absurd H (by simp)
              case rest =>
                clear HC17
                try clear c1
                try clear c2
                try clear p2
                try clear c3
                try clear p3
                try clear q3
                try clear hx3
                try clear c4
                try clear c7
                try clear c8
                try clear c8b0
                try clear c9
                try clear c9b0
                try clear c10
                try clear c13
                try clear c16
                try clear c16b0
                try clear c19
                try clear c19b0
                try clear c21
                try clear hcz11_0
                try clear hcz11_1
                try clear hfz11_0
                try clear hfz11_1
                try clear hx397_0
                try clear hx397_1
                try clear hx399_0
                try clear hx399_1
                try clear p2
                try clear p397
                try clear p399
                try clear q397
                try clear q399
                obtain ⟨kq, x53_16, rfl, HA, HJ16, HO_6, BK391, HB⟩ := hcut
                cases kq with
                | zero => exact absurd HA.out (by simp [roadbooklaw06_TreeAll.j2])
                | succ kj16 =>
                  have H := HA.out
                  clear HA
                  simp only [roadbooklaw06_TreeAll.j2] at H
                  by_cases c26 : x53_16 = true
                  · subst c26
                    have H1 : (none) = some r := by rw [if_pos rfl] at H; exact H
                    clear H
                    have H := H1
                    clear H1
                    exact absurd H (by simp)
                  · replace c26 := Bool.eq_false_iff.mpr c26
                    subst c26
                    have H1 : (if x9_2 > 0 then (if 0 ≤ x9_2 then (if x9_2 < (t394.length : Int) then ((tree_Text.f kj16 ((rd_T39 t394 x9_2).f0) ((rd_T39 t394 x9_2).f1)).bind fun t402 => (if 0 ≤ (wrap64 (x9_2 - 1)) then (if (wrap64 (x9_2 - 1)) < (t394.length : Int) then ((tree_Text.f kj16 ((rd_T39 t394 (wrap64 (x9_2 - 1))).f0) ((rd_T39 t394 (wrap64 (x9_2 - 1))).f1)).bind fun t404 => (roadbooklaw06_TreeAll.j3 kj16 a0 t394 x7_2 x8_2 x9_2 (t402.toList == t404.toList) a1_0 l1_1)) else (none)) else (none))) else (none)) else (none)) else (roadbooklaw06_TreeAll.j3 kj16 a0 t394 x7_2 x8_2 x9_2 false a1_0 l1_1)) = some r := by rw [if_neg (show ¬ (false = true) by decide)] at H; exact H
                    clear H
                    have H := H1
                    clear H1
                    have HC27 := Aside0.mk H
                    clear H
                    go_upto_region 12 with (fail)
                    go_cut [69] (fun v69 wc => ∃ (kq : Nat) (x69_26 : Bool), v69 = .bool x69_26 ∧ Aside0 (roadbooklaw06_TreeAll.j3 kq a0 t394 x7_2 x8_2 x9_2 x69_26 a1_0 l1_1 = some r) ∧ Aside0 (kq ≤ kj16) ∧ Aside0 (Kd.N k39 39 wc w.heap.size (fun k_ => k_ ≠ gb391) (.slice Ao18 t394.length co18) t394) ∧ Aside0 (wc.heap[gb391]? = some (.cells #[.int .i64 a1_0, (.slice A1_1 l1_1.length c1_1)] 39 (0, 0))) ∧ Aside0 (Below w.heap.size w wc))
                    case first =>
                      have H := HC27.out
                      clear HC27
                      by_cases c28 : x9_2 > 0
                      · rw [if_pos c28] at H
                        have c28b0 : decide (0 < x9_2) = true := decide_eq_true c28
                        clear c28
                        (first | rw [c28b0] | (simp only [i64_w, i32_w]; rw [c28b0]) | skip)
                        by_cases c29 : 0 ≤ x9_2
                        · rw [if_pos c29] at H
                          have c29b0 : decide (0 ≤ x9_2) = true := decide_eq_true c29
                          clear c29
                          by_cases c30 : x9_2 < (t394.length : Int)
                          · rw [if_pos c30] at H
                            have c30b0 : decide (x9_2 < (t394.length : Int)) = true := decide_eq_true c30
                            clear c30
                            replace H := Option.bind_eq_some_iff.mp H
                            obtain ⟨t402, A310, H⟩ := H
                            replace H : (if 0 ≤ (wrap64 (x9_2 - 1)) then (if (wrap64 (x9_2 - 1)) < (t394.length : Int) then ((tree_Text.f kj16 ((rd_T39 t394 (wrap64 (x9_2 - 1))).f0) ((rd_T39 t394 (wrap64 (x9_2 - 1))).f1)).bind fun t404 => (roadbooklaw06_TreeAll.j3 kj16 a0 t394 x7_2 x8_2 x9_2 (t402.toList == t404.toList) a1_0 l1_1)) else (none)) else (none)) = some r := H
                            have A31 := Aside0.mk A310
                            clear A310
                            obtain ⟨ji32, hji32⟩ : ∃ j_ : Int, (wrap64 (x9_2 - 1)) = j_ := ⟨_, rfl⟩
                            replace H : (if 0 ≤ (ji32) then (if (ji32) < (t394.length : Int) then ((tree_Text.f kj16 ((rd_T39 t394 (ji32)).f0) ((rd_T39 t394 (ji32)).f1)).bind fun t404 => (roadbooklaw06_TreeAll.j3 kj16 a0 t394 x7_2 x8_2 x9_2 (t402.toList == t404.toList) a1_0 l1_1)) else (none)) else (none)) = some r := by first | (rw [hji32] at H; exact H) | (simp only [hji32] at H ⊢; exact H)
                            (try rw [hji32] at A31)
                            have hji32w : (IntKind.i64.wrap (x9_2 - 1)) = ji32 := (i64_w _).trans hji32
                            by_cases c33 : 0 ≤ (ji32)
                            · rw [if_pos c33] at H
                              have c33b0 : decide (0 ≤ (ji32)) = true := decide_eq_true c33
                              clear c33
                              by_cases c34 : (ji32) < (t394.length : Int)
                              · rw [if_pos c34] at H
                                have c34b0 : decide ((ji32) < (t394.length : Int)) = true := decide_eq_true c34
                                clear c34
                                replace H := Option.bind_eq_some_iff.mp H
                                obtain ⟨t404, A350, H⟩ := H
                                replace H : (roadbooklaw06_TreeAll.j3 kj16 a0 t394 x7_2 x8_2 x9_2 (t402.toList == t404.toList) a1_0 l1_1) = some r := H
                                have A35 := Aside0.mk A350
                                clear A350
                                have H' := Aside0.mk H
                                clear H
                                try go_wp2
                                have n0_ := Aside0.mk (Kd.N_drew HO_6.out)
                                have n1_ := Aside0.mk (blk_drew BK391.out)
                                have n2_ := Aside0.mk (below_drew1 HB.out)
                                clear HO_6
                                clear BK391
                                clear HB
                                have HO_6 := n0_
                                have BK391 := n1_
                                have HB := n2_
                                clear n0_ n1_ n2_
                                have p401 : 0 ≤ (x9_2 : Int) := of_decide_eq_true (by first | (with_reducible assumption) | assumption)
                                have q401 : x9_2 < (t394.length : Int) := of_decide_eq_true (by first | (with_reducible assumption) | assumption)
                                obtain ⟨ad401, A401_1, c401_1, e401, hx401_0, hx401_1, hl401_1, hi401_1⟩ := at_T39 (Kd.N_reads' HO_6.out).2.2 x9_2 p401 q401
                                cases e401
                                obtain ⟨ce401, hce401, hMe401, hcc401⟩ := Kd.N_get HO_6.out z39 x9_2 p401 (by first | exact q401 | exact of_decide_eq_true (by first | (with_reducible assumption) | assumption) | (have e_ := (Kd.N_reads' HO_6.out).1; omega))
                                obtain ⟨ua401_1, uc401_1, rfl, ul401_1, ge401_1⟩ := k39_openF hMe401
                                have hv401_1 := hcc401 1 _ rfl
                                rw [add_field _ _ 1 (by omega)] at hv401_1
                                replace hv401_1 := Option.some.inj (hv401_1.symm.trans hx401_1)
                                injection hv401_1 with hva_ hvn_ hvc_
                                rw [hva_] at ge401_1
                                rw [hvc_] at ul401_1
                                have HL401_1 := Aside0.mk (show Kd.V k39 39 _ w.heap.size _ _ ((rd_T39 t394 x9_2).f1) from Kd.V_mk ul401_1 ge401_1)
                                clear hva_ hvn_ hvc_ ge401_1 ul401_1
                                clear hcc401 hce401
                                have HR401_1 := Aside0.mk hi401_1
                                have HC401_1 := Aside0.mk hl401_1
                                clear hi401_1 hl401_1
                                replace p401 := eq_true p401
                                replace q401 := eq_true q401
                                have p403 : 0 ≤ ((ji32) : Int) := of_decide_eq_true (by first | (with_reducible assumption) | assumption)
                                have q403 : (ji32) < (t394.length : Int) := of_decide_eq_true (by first | (with_reducible assumption) | assumption)
                                obtain ⟨ad403, A403_1, c403_1, e403, hx403_0, hx403_1, hl403_1, hi403_1⟩ := at_T39 (Kd.N_reads' HO_6.out).2.2 (ji32) p403 q403
                                obtain rfl : ad401 = ad403 := (by injection e403)
                                obtain ⟨ce403, hce403, hMe403, hcc403⟩ := Kd.N_get HO_6.out z39 (ji32) p403 (by first | exact q403 | exact of_decide_eq_true (by first | (with_reducible assumption) | assumption) | (have e_ := (Kd.N_reads' HO_6.out).1; omega))
                                obtain ⟨ua403_1, uc403_1, rfl, ul403_1, ge403_1⟩ := k39_openF hMe403
                                have hv403_1 := hcc403 1 _ rfl
                                rw [add_field _ _ 1 (by omega)] at hv403_1
                                replace hv403_1 := Option.some.inj (hv403_1.symm.trans hx403_1)
                                injection hv403_1 with hva_ hvn_ hvc_
                                rw [hva_] at ge403_1
                                rw [hvc_] at ul403_1
                                have HL403_1 := Aside0.mk (show Kd.V k39 39 _ w.heap.size _ _ ((rd_T39 t394 (ji32)).f1) from Kd.V_mk ul403_1 ge403_1)
                                clear hva_ hvn_ hvc_ ge403_1 ul403_1
                                clear hcc403 hce403
                                have HR403_1 := Aside0.mk hi403_1
                                have HC403_1 := Aside0.mk hl403_1
                                clear hi403_1 hl403_1
                                replace p403 := eq_true p403
                                replace q403 := eq_true q403
                                refine start_ (n := 16) (S := fun w' => w'.cell? (ad401.add ((x9_2).toNat * 2)) = some (.int .i64 ((rd_T39 t394 x9_2).f0)) ∧ w'.cell? ⟨(ad401.add ((x9_2).toNat * 2)).block, (ad401.add ((x9_2).toNat * 2)).off + 1, none⟩ = some (.slice A401_1 ((rd_T39 t394 x9_2).f1).length c401_1) ∧ w'.cell? (ad401.add (((ji32)).toNat * 2)) = some (.int .i64 ((rd_T39 t394 (ji32)).f0)) ∧ w'.cell? ⟨(ad401.add (((ji32)).toNat * 2)).block, (ad401.add (((ji32)).toNat * 2)).off + 1, none⟩ = some (.slice A403_1 ((rd_T39 t394 (ji32)).f1).length c403_1)) (ds := []) #[false, false, false, false, false, false, false, false, false, false, false, false, false, false, false, false] (by kernel_rfl) rfl rfl ⟨hx401_0, hx401_1, hx403_0, hx403_1⟩ (fun hHeld => ?_); refine with_tabW roadbooklaw06_TreeAll.tab12 roadbooklaw06_TreeAll.bits12 (fun HT_ HW_ => ?_)
                                generalize wc.drew = w36 at HO_6 BK391 HB HL401_1 HL403_1 HR401_1 HR403_1 hx401_0 hx401_1 hx403_0 hx403_1 hHeld ⊢
                                refine pure_ (i := 0) (N := some 54) (v := ?_) (a' := ?_) #[true, false, false, false, false, false, false, false, false, false, false, false, false, false, false, false] rfl rfl (any_of HT_.out (by kernel_rfl)) (fun _ _ _ h => h) (Or.inl ⟨by rfl, ?_⟩) ?_ ?_
                                rotate_left
                                · intro w'
                                  go_simp
                                  with_reducible rfl
                                rotate_left
                                · simp only [Act.put, List.setIfInBounds_toArray, List.set_cons_zero, List.set_cons_succ, i64_w, i32_w]
                                  rfl
                                refine pure_ (i := 1) (N := some 55) (v := ?_) (a' := ?_) #[true, true, false, false, false, false, false, false, false, false, false, false, false, false, false, false] rfl rfl (any_of HT_.out (by kernel_rfl)) (fun _ _ _ h => h) (Or.inl ⟨by rfl, ?_⟩) ?_ ?_
                                rotate_left
                                · intro w'
                                  go_simp
                                  with_reducible rfl
                                rotate_left
                                · simp only [Act.put, List.setIfInBounds_toArray, List.set_cons_zero, List.set_cons_succ, i64_w, i32_w]
                                  rfl
                                refine pure_ (i := 2) (N := some 56) (v := ?_) (a' := ?_) #[true, true, true, false, false, false, false, false, false, false, false, false, false, false, false, false] rfl rfl (any_of HT_.out (by kernel_rfl)) (fun _ _ _ h => h) (Or.inl ⟨by rfl, ?_⟩) ?_ ?_
                                rotate_left
                                · intro w'
                                  go_simp
                                  with_reducible rfl
                                rotate_left
                                · simp only [Act.put, List.setIfInBounds_toArray, List.set_cons_zero, List.set_cons_succ, i64_w, i32_w]
                                  rfl
                                refine pure_ (i := 3) (N := some 57) (v := ?_) (a' := ?_) #[true, true, true, true, false, false, false, false, false, false, false, false, false, false, false, false] rfl rfl (any_of HT_.out (by kernel_rfl)) (fun _ _ _ h => h) (Or.inl ⟨by rfl, ?_⟩) ?_ ?_
                                rotate_left
                                · intro w'
                                  go_simp
                                  with_reducible rfl
                                rotate_left
                                · simp only [Act.put, List.setIfInBounds_toArray, List.set_cons_zero, List.set_cons_succ, i64_w, i32_w]
                                  rfl
                                refine pure_ (i := 4) (N := some 58) (v := ?_) (a' := ?_) #[true, true, true, true, true, false, false, false, false, false, false, false, false, false, false, false] rfl rfl (any_of HT_.out (by kernel_rfl)) (fun _ _ _ h => h) (Or.inl ⟨by rfl, ?_⟩) ?_ ?_
                                rotate_left
                                · intro w'
                                  go_simp
                                  with_reducible rfl
                                rotate_left
                                · simp only [Act.put, List.setIfInBounds_toArray, List.set_cons_zero, List.set_cons_succ, i64_w, i32_w]
                                  rfl
                                refine pure_ (i := 5) (N := some 59) (v := ?_) (a' := ?_) #[true, true, true, true, true, true, false, false, false, false, false, false, false, false, false, false] rfl rfl (any_of HT_.out (by kernel_rfl)) (fun _ _ _ h => h) (Or.inl ⟨by rfl, ?_⟩) ?_ ?_
                                rotate_left
                                · intro w'
                                  go_simp
                                  with_reducible rfl
                                rotate_left
                                · simp only [Act.put, List.setIfInBounds_toArray, List.set_cons_zero, List.set_cons_succ, i64_w, i32_w]
                                  rfl
                                refine pure_ (i := 8) (N := some 62) (v := ?_) (a' := ?_) #[true, true, true, true, true, true, false, false, true, false, false, false, false, false, false, false] rfl rfl (any_of HT_.out (by kernel_rfl)) (fun _ _ _ h => h) (Or.inl ⟨by rfl, ?_⟩) ?_ ?_
                                rotate_left
                                · intro w'
                                  go_simp
                                  with_reducible rfl
                                rotate_left
                                · simp only [Act.put, List.setIfInBounds_toArray, List.set_cons_zero, List.set_cons_succ, i64_w, i32_w]
                                  rfl
                                refine pure_ (i := 9) (N := some 63) (v := ?_) (a' := ?_) #[true, true, true, true, true, true, false, false, true, true, false, false, false, false, false, false] rfl rfl (any_of HT_.out (by kernel_rfl)) (fun _ _ _ h => h) (Or.inl ⟨by rfl, ?_⟩) ?_ ?_
                                rotate_left
                                · intro w'
                                  go_simp
                                  with_reducible rfl
                                rotate_left
                                · simp only [Act.put, List.setIfInBounds_toArray, List.set_cons_zero, List.set_cons_succ, i64_w, i32_w]
                                  rfl
                                refine pure_ (i := 10) (N := some 64) (v := ?_) (a' := ?_) #[true, true, true, true, true, true, false, false, true, true, true, false, false, false, false, false] rfl rfl (any_of HT_.out (by kernel_rfl)) (fun _ _ _ h => h) (Or.inl ⟨by rfl, ?_⟩) ?_ ?_
                                rotate_left
                                · intro w'
                                  go_simp
                                  with_reducible rfl
                                rotate_left
                                · simp only [Act.put, List.setIfInBounds_toArray, List.set_cons_zero, List.set_cons_succ, i64_w, i32_w]
                                  rfl
                                refine pure_ (i := 11) (N := some 65) (v := ?_) (a' := ?_) #[true, true, true, true, true, true, false, false, true, true, true, true, false, false, false, false] rfl rfl (any_of HT_.out (by kernel_rfl)) (fun _ _ _ h => h) (Or.inl ⟨by rfl, ?_⟩) ?_ ?_
                                rotate_left
                                · intro w'
                                  go_simp
                                  with_reducible rfl
                                rotate_left
                                · simp only [Act.put, List.setIfInBounds_toArray, List.set_cons_zero, List.set_cons_succ, i64_w, i32_w]
                                  rfl
                                refine take_ (i := 6) (N := some 60) (v := ?_) (a' := ?_) #[true, true, true, true, true, true, true, false, true, true, true, true, false, false, false, false] rfl rfl (take_ofW HT_.out HW_.out (by kernel_rfl)) (fun _ _ _ h => h) (Or.inl ⟨by rfl, ?_⟩) hHeld ?_ ?_
                                rotate_left
                                · rintro w' ⟨s0, s1, s2, s3⟩
                                  go_simp
                                  with_reducible rfl
                                rotate_left
                                · simp only [Act.put, List.setIfInBounds_toArray, List.set_cons_zero, List.set_cons_succ, i64_w, i32_w]
                                  rfl
                                refine take_ (i := 12) (N := some 66) (v := ?_) (a' := ?_) #[true, true, true, true, true, true, true, false, true, true, true, true, true, false, false, false] rfl rfl (take_ofW HT_.out HW_.out (by kernel_rfl)) (fun _ _ _ h => h) (Or.inl ⟨by rfl, ?_⟩) hHeld ?_ ?_
                                rotate_left
                                · rintro w' ⟨s0, s1, s2, s3⟩
                                  go_simp
                                  with_reducible rfl
                                rotate_left
                                · simp only [Act.put, List.setIfInBounds_toArray, List.set_cons_zero, List.set_cons_succ, i64_w, i32_w]
                                  rfl
                                refine one_ (i := 7) (N := some 61) #[true, true, true, true, true, true, true, true, true, true, true, true, true, false, false, false] rfl rfl (one_of HT_.out (by kernel_rfl)) (by decide) (fun K hK => ?_)
                                refine goes_ Try.func37 (by kernel_rfl) rfl #[.agg #[.int .i64 ((rd_T39 t394 x9_2).f0), .slice A401_1 ((rd_T39 t394 x9_2).f1).length c401_1]] (by rfl) rfl rfl (by (try simp only [List.map_toArray, List.map_cons, List.map_nil]); first | done | rfl | (simp only [List.length_drop, List.length_take]; rfl)) ?_
                                with_reducible refine (tree_Text.calls kj16 ((rd_T39 t394 x9_2).f0) _ _ ((rd_T39 t394 x9_2).f1) t402 _ ?side1 ?side2 A31.out).mono ?_
                                (case side1 => repeat (first | exact (by repeat (first | (with_reducible exact HR401_1.out) | (with_reducible refine Kd.C_alloc ?_ _) | (with_reducible refine Kd.C_drewN ?_ _) | (with_reducible refine Kd.C_drew ?_) | exact HR401_1.out | exact Kd.F_now (Kd.V_at HL401_1.out).2.2)) | (with_reducible refine Kd.C_alloc ?_ _) | (with_reducible refine Kd.C_drewN ?_ _) | (with_reducible refine Kd.C_drew ?_)))
                                (case side2 => exact HC401_1.out)
                                rintro e w37 ⟨rfl, hb⟩
                                have HS0_ := (hb.cell (World.block_lt_of_cell? _ _ (hHeld.1))).trans (hHeld.1)
                                have HS1_ := (hb.cell (World.block_lt_of_cell? _ _ (hHeld.2.1))).trans (hHeld.2.1)
                                have HS2_ := (hb.cell (World.block_lt_of_cell? _ _ (hHeld.2.2.1))).trans (hHeld.2.2.1)
                                have HS3_ := (hb.cell (World.block_lt_of_cell? _ _ (hHeld.2.2.2))).trans (hHeld.2.2.2)
                                refine ⟨_, rfl, ?_⟩
                                have n0_ := Aside0.mk (Kd.N_below (by (with_reducible repeat (first | apply Kd.N_alloc | apply Kd.N_drewN | apply Kd.N_drew)); exact HO_6.out) hb)
                                have n1_ := Aside0.mk (Kd.V_below (by (with_reducible repeat (first | apply Kd.V_alloc | apply Kd.V_drewN | apply Kd.V_drew)); exact HL401_1.out) hb)
                                have n2_ := Aside0.mk (Kd.V_below (by (with_reducible repeat (first | apply Kd.V_alloc | apply Kd.V_drewN | apply Kd.V_drew)); exact HL403_1.out) hb)
                                have n3_ := Aside0.mk (blk_below (g := gb391) (o := .cells #[.int .i64 a1_0, .slice A1_1 l1_1.length c1_1] 39 (0, 0)) (by (with_reducible repeat (first | refine blk_drewN ?_ _ | refine blk_drew ?_ | refine blk_alloc ?_ _)); exact BK391.out) hb)
                                have n4_ := Aside0.mk (Kd.C_below (by repeat (first | (with_reducible exact HR401_1.out) | (with_reducible refine Kd.C_alloc ?_ _) | (with_reducible refine Kd.C_drewN ?_ _) | (with_reducible refine Kd.C_drew ?_) | exact HR401_1.out | exact Kd.F_now (Kd.V_at HL401_1.out).2.2)) hb)
                                have n5_ := Aside0.mk (Kd.C_below (by repeat (first | (with_reducible exact HR403_1.out) | (with_reducible refine Kd.C_alloc ?_ _) | (with_reducible refine Kd.C_drewN ?_ _) | (with_reducible refine Kd.C_drew ?_) | exact HR403_1.out | exact Kd.F_now (Kd.V_at HL403_1.out).2.2)) hb)
                                have n6_ := Aside0.mk (below_step (by repeat (first | (with_reducible first | exact HB.out | apply below_alloc | apply pw_below_drewN | apply below_drew1 | refine below_set ?_ GE391.out) | exact HB.out)) hb)
                                clear HO_6
                                clear HL401_1
                                clear HL403_1
                                clear BK391
                                clear HR401_1
                                clear HR403_1
                                clear HB
                                have HO_6 := n0_
                                have HL401_1 := n1_
                                have HL403_1 := n2_
                                have BK391 := n3_
                                have HR401_1 := n4_
                                have HR403_1 := n5_
                                have HB := n6_
                                clear n0_ n1_ n2_ n3_ n4_ n5_ n6_
                                (try clear hb)
                                (try clear hb2)
                                (try clear hk)
                                (try clear hi)
                                refine hK.out _ _ ⟨HS0_, HS1_, HS2_, HS3_⟩ (fun hHeld => ?_)
                                clear hK K
                                refine norm_ (a' := ?_) ?_ ?_
                                rotate_left
                                · show Act.put _ (some 61) _ = _
                                  simp only [Act.put, List.setIfInBounds_toArray, List.set_cons_zero, List.set_cons_succ, i64_w, i32_w]
                                  rfl
                                refine one_ (i := 13) (N := some 67) #[true, true, true, true, true, true, true, true, true, true, true, true, true, true, false, false] rfl rfl (one_of HT_.out (by kernel_rfl)) (by decide) (fun K hK => ?_)
                                refine goes_ Try.func37 (by kernel_rfl) rfl #[.agg #[.int .i64 ((rd_T39 t394 (ji32)).f0), .slice A403_1 ((rd_T39 t394 (ji32)).f1).length c403_1]] (by rfl) rfl rfl (by (try simp only [List.map_toArray, List.map_cons, List.map_nil]); first | done | (simp only [hji32]; rfl) | rfl | (simp only [List.length_drop, List.length_take]; rfl)) ?_
                                with_reducible refine (tree_Text.calls kj16 ((rd_T39 t394 (ji32)).f0) _ _ ((rd_T39 t394 (ji32)).f1) t404 _ ?side1 ?side2 A35.out).mono ?_
                                (case side1 => repeat (first | exact (by repeat (first | (with_reducible exact HR403_1.out) | (with_reducible refine Kd.C_alloc ?_ _) | (with_reducible refine Kd.C_drewN ?_ _) | (with_reducible refine Kd.C_drew ?_) | exact HR403_1.out | exact Kd.F_now (Kd.V_at HL403_1.out).2.2)) | (with_reducible refine Kd.C_alloc ?_ _) | (with_reducible refine Kd.C_drewN ?_ _) | (with_reducible refine Kd.C_drew ?_)))
                                (case side2 => exact HC403_1.out)
                                rintro e w38 ⟨rfl, hb⟩
                                have HS0_ := (hb.cell (World.block_lt_of_cell? _ _ (hHeld.1))).trans (hHeld.1)
                                have HS1_ := (hb.cell (World.block_lt_of_cell? _ _ (hHeld.2.1))).trans (hHeld.2.1)
                                have HS2_ := (hb.cell (World.block_lt_of_cell? _ _ (hHeld.2.2.1))).trans (hHeld.2.2.1)
                                have HS3_ := (hb.cell (World.block_lt_of_cell? _ _ (hHeld.2.2.2))).trans (hHeld.2.2.2)
                                refine ⟨_, rfl, ?_⟩
                                have n0_ := Aside0.mk (Kd.N_below (by (with_reducible repeat (first | apply Kd.N_alloc | apply Kd.N_drewN | apply Kd.N_drew)); exact HO_6.out) hb)
                                have n1_ := Aside0.mk (Kd.V_below (by (with_reducible repeat (first | apply Kd.V_alloc | apply Kd.V_drewN | apply Kd.V_drew)); exact HL401_1.out) hb)
                                have n2_ := Aside0.mk (Kd.V_below (by (with_reducible repeat (first | apply Kd.V_alloc | apply Kd.V_drewN | apply Kd.V_drew)); exact HL403_1.out) hb)
                                have n3_ := Aside0.mk (blk_below (g := gb391) (o := .cells #[.int .i64 a1_0, .slice A1_1 l1_1.length c1_1] 39 (0, 0)) (by (with_reducible repeat (first | refine blk_drewN ?_ _ | refine blk_drew ?_ | refine blk_alloc ?_ _)); exact BK391.out) hb)
                                have n4_ := Aside0.mk (Kd.C_below (by repeat (first | (with_reducible exact HR401_1.out) | (with_reducible refine Kd.C_alloc ?_ _) | (with_reducible refine Kd.C_drewN ?_ _) | (with_reducible refine Kd.C_drew ?_) | exact HR401_1.out | exact Kd.F_now (Kd.V_at HL401_1.out).2.2)) hb)
                                have n5_ := Aside0.mk (Kd.C_below (by repeat (first | (with_reducible exact HR403_1.out) | (with_reducible refine Kd.C_alloc ?_ _) | (with_reducible refine Kd.C_drewN ?_ _) | (with_reducible refine Kd.C_drew ?_) | exact HR403_1.out | exact Kd.F_now (Kd.V_at HL403_1.out).2.2)) hb)
                                have n6_ := Aside0.mk (below_step (by repeat (first | (with_reducible first | exact HB.out | apply below_alloc | apply pw_below_drewN | apply below_drew1 | refine below_set ?_ GE391.out) | exact HB.out)) hb)
                                clear HO_6
                                clear HL401_1
                                clear HL403_1
                                clear BK391
                                clear HR401_1
                                clear HR403_1
                                clear HB
                                have HO_6 := n0_
                                have HL401_1 := n1_
                                have HL403_1 := n2_
                                have BK391 := n3_
                                have HR401_1 := n4_
                                have HR403_1 := n5_
                                have HB := n6_
                                clear n0_ n1_ n2_ n3_ n4_ n5_ n6_
                                (try clear hb)
                                (try clear hb2)
                                (try clear hk)
                                (try clear hi)
                                refine hK.out _ _ ⟨HS0_, HS1_, HS2_, HS3_⟩ (fun hHeld => ?_)
                                clear hK K
                                refine norm_ (a' := ?_) ?_ ?_
                                rotate_left
                                · show Act.put _ (some 67) _ = _
                                  simp only [Act.put, List.setIfInBounds_toArray, List.set_cons_zero, List.set_cons_succ, i64_w, i32_w]
                                  rfl
                                refine pure_ (i := 14) (N := some 68) (v := ?_) (a' := ?_) #[true, true, true, true, true, true, true, true, true, true, true, true, true, true, true, false] rfl rfl (any_of HT_.out (by kernel_rfl)) (fun _ _ _ h => h) (Or.inl ⟨by rfl, ?_⟩) ?_ ?_
                                rotate_left
                                · intro w'
                                  go_simp
                                  with_reducible rfl
                                rotate_left
                                · simp only [Act.put, List.setIfInBounds_toArray, List.set_cons_zero, List.set_cons_succ, i64_w, i32_w]
                                  rfl
                                refine pure_ (i := 15) (N := some 69) (v := ?_) (a' := ?_) #[true, true, true, true, true, true, true, true, true, true, true, true, true, true, true, true] rfl rfl (any_of HT_.out (by kernel_rfl)) (fun _ _ _ h => h) (Or.inl ⟨by rfl, ?_⟩) ?_ ?_
                                rotate_left
                                · intro w'
                                  go_simp
                                  with_reducible rfl
                                rotate_left
                                · simp only [Act.put, List.setIfInBounds_toArray, List.set_cons_zero, List.set_cons_succ, i64_w, i32_w]
                                  rfl
                                refine done_ (done_of HT_.out (by kernel_rfl)) ?_
                                try go_wp2
                                go_meet
                                case rel => exact ⟨_, ((t402.toList == t404.toList)), (by first | rfl | (simp; done) | (simp [*]; done)), H', ⟨by have := HJ3.out; have := HK2.out; have := HJ16.out; first | omega | exact Nat.le_refl _⟩, ⟨by (with_reducible repeat (first | apply Kd.N_alloc | apply Kd.N_drewN | apply Kd.N_drew)); exact HO_6.out⟩, ⟨by (with_reducible repeat (first | refine blk_drewN ?_ _ | refine blk_drew ?_ | refine blk_alloc ?_ _)); exact BK391.out⟩, ⟨by repeat (first | (with_reducible first | exact HB.out | apply below_alloc | apply pw_below_drewN | apply below_drew1 | refine below_set ?_ GE391.out) | exact HB.out)⟩⟩
                              · rw [if_neg c34] at H
                                exact absurd H (by simp)
                            · rw [if_neg c33] at H
                              exact absurd H (by simp)
                          · rw [if_neg c30] at H
                            exact absurd H (by simp)
                        · rw [if_neg c29] at H
                          exact absurd H (by simp)
                      · rw [if_neg c28] at H
                        have c28b0 : decide (0 < x9_2) = false := decide_eq_false c28
                        clear c28
                        (first | rw [c28b0] | (simp only [i64_w, i32_w]; rw [c28b0]) | skip)
                        have H' := Aside0.mk H
                        clear H
                        try go_wp2
                        have n0_ := Aside0.mk (Kd.N_drew HO_6.out)
                        have n1_ := Aside0.mk (blk_drew BK391.out)
                        have n2_ := Aside0.mk (below_drew1 HB.out)
                        clear HO_6
                        clear BK391
                        clear HB
                        have HO_6 := n0_
                        have BK391 := n1_
                        have HB := n2_
                        clear n0_ n1_ n2_
                        refine start_ (n := 16) (S := fun w' => True) (ds := []) #[false, false, false, false, false, false, false, false, false, false, false, false, false, false, false, false] (by kernel_rfl) rfl rfl trivial (fun hHeld => ?_); refine with_tabW roadbooklaw06_TreeAll.tab12 roadbooklaw06_TreeAll.bits12 (fun HT_ HW_ => ?_)
                        generalize wc.drew = w39 at HO_6 BK391 HB hHeld ⊢
                        refine pure_ (i := 0) (N := some 54) (v := ?_) (a' := ?_) #[true, false, false, false, false, false, false, false, false, false, false, false, false, false, false, false] rfl rfl (any_of HT_.out (by kernel_rfl)) (fun _ _ _ h => h) (Or.inl ⟨by rfl, ?_⟩) ?_ ?_
                        rotate_left
                        · intro w'
                          go_simp
                          with_reducible rfl
                        rotate_left
                        · simp only [Act.put, List.setIfInBounds_toArray, List.set_cons_zero, List.set_cons_succ, i64_w, i32_w]
                          rfl
                        refine pure_ (i := 1) (N := some 55) (v := ?_) (a' := ?_) #[true, true, false, false, false, false, false, false, false, false, false, false, false, false, false, false] rfl rfl (any_of HT_.out (by kernel_rfl)) (fun _ _ _ h => h) (Or.inl ⟨by rfl, ?_⟩) ?_ ?_
                        rotate_left
                        · intro w'
                          go_simp
                          with_reducible rfl
                        rotate_left
                        · simp only [Act.put, List.setIfInBounds_toArray, List.set_cons_zero, List.set_cons_succ, i64_w, i32_w]
                          rfl
                        refine pure_ (i := 2) (N := some 56) (v := ?_) (a' := ?_) #[true, true, true, false, false, false, false, false, false, false, false, false, false, false, false, false] rfl rfl (any_of HT_.out (by kernel_rfl)) (fun _ _ _ h => h) (Or.inl ⟨by rfl, ?_⟩) ?_ ?_
                        rotate_left
                        · intro w'
                          go_simp
                          with_reducible rfl
                        rotate_left
                        · simp only [Act.put, List.setIfInBounds_toArray, List.set_cons_zero, List.set_cons_succ, i64_w, i32_w]
                          rfl
                        refine pure_ (i := 3) (N := some 57) (v := undef) (a' := ?_) #[true, true, true, true, false, false, false, false, false, false, false, false, false, false, false, false] rfl rfl (any_of HT_.out (by kernel_rfl)) (fun _ _ _ h => h) (Or.inr ⟨by rfl, rfl⟩) ?_ ?_
                        rotate_left
                        · simp only [Act.put, List.setIfInBounds_toArray, List.set_cons_zero, List.set_cons_succ, i64_w, i32_w]
                          rfl
                        refine pure_ (i := 4) (N := some 58) (v := undef) (a' := ?_) #[true, true, true, true, true, false, false, false, false, false, false, false, false, false, false, false] rfl rfl (any_of HT_.out (by kernel_rfl)) (fun _ _ _ h => h) (Or.inr ⟨by rfl, rfl⟩) ?_ ?_
                        rotate_left
                        · simp only [Act.put, List.setIfInBounds_toArray, List.set_cons_zero, List.set_cons_succ, i64_w, i32_w]
                          rfl
                        refine pure_ (i := 5) (N := some 59) (v := undef) (a' := ?_) #[true, true, true, true, true, true, false, false, false, false, false, false, false, false, false, false] rfl rfl (any_of HT_.out (by kernel_rfl)) (fun _ _ _ h => h) (Or.inr ⟨by rfl, rfl⟩) ?_ ?_
                        rotate_left
                        · simp only [Act.put, List.setIfInBounds_toArray, List.set_cons_zero, List.set_cons_succ, i64_w, i32_w]
                          rfl
                        refine pure_ (i := 6) (N := some 60) (v := undef) (a' := ?_) #[true, true, true, true, true, true, true, false, false, false, false, false, false, false, false, false] rfl rfl (any_of HT_.out (by kernel_rfl)) (fun _ _ _ h => h) (Or.inr ⟨by rfl, rfl⟩) ?_ ?_
                        rotate_left
                        · simp only [Act.put, List.setIfInBounds_toArray, List.set_cons_zero, List.set_cons_succ, i64_w, i32_w]
                          rfl
                        refine pure_ (i := 7) (N := some 61) (v := undef) (a' := ?_) #[true, true, true, true, true, true, true, true, false, false, false, false, false, false, false, false] rfl rfl (any_of HT_.out (by kernel_rfl)) (fun _ _ _ h => h) (Or.inr ⟨by rfl, rfl⟩) ?_ ?_
                        rotate_left
                        · simp only [Act.put, List.setIfInBounds_toArray, List.set_cons_zero, List.set_cons_succ, i64_w, i32_w]
                          rfl
                        refine pure_ (i := 8) (N := some 62) (v := undef) (a' := ?_) #[true, true, true, true, true, true, true, true, true, false, false, false, false, false, false, false] rfl rfl (any_of HT_.out (by kernel_rfl)) (fun _ _ _ h => h) (Or.inr ⟨by rfl, rfl⟩) ?_ ?_
                        rotate_left
                        · simp only [Act.put, List.setIfInBounds_toArray, List.set_cons_zero, List.set_cons_succ, i64_w, i32_w]
                          rfl
                        refine pure_ (i := 9) (N := some 63) (v := undef) (a' := ?_) #[true, true, true, true, true, true, true, true, true, true, false, false, false, false, false, false] rfl rfl (any_of HT_.out (by kernel_rfl)) (fun _ _ _ h => h) (Or.inr ⟨by rfl, rfl⟩) ?_ ?_
                        rotate_left
                        · simp only [Act.put, List.setIfInBounds_toArray, List.set_cons_zero, List.set_cons_succ, i64_w, i32_w]
                          rfl
                        refine pure_ (i := 10) (N := some 64) (v := undef) (a' := ?_) #[true, true, true, true, true, true, true, true, true, true, true, false, false, false, false, false] rfl rfl (any_of HT_.out (by kernel_rfl)) (fun _ _ _ h => h) (Or.inr ⟨by rfl, rfl⟩) ?_ ?_
                        rotate_left
                        · simp only [Act.put, List.setIfInBounds_toArray, List.set_cons_zero, List.set_cons_succ, i64_w, i32_w]
                          rfl
                        refine pure_ (i := 11) (N := some 65) (v := undef) (a' := ?_) #[true, true, true, true, true, true, true, true, true, true, true, true, false, false, false, false] rfl rfl (any_of HT_.out (by kernel_rfl)) (fun _ _ _ h => h) (Or.inr ⟨by rfl, rfl⟩) ?_ ?_
                        rotate_left
                        · simp only [Act.put, List.setIfInBounds_toArray, List.set_cons_zero, List.set_cons_succ, i64_w, i32_w]
                          rfl
                        refine pure_ (i := 12) (N := some 66) (v := undef) (a' := ?_) #[true, true, true, true, true, true, true, true, true, true, true, true, true, false, false, false] rfl rfl (any_of HT_.out (by kernel_rfl)) (fun _ _ _ h => h) (Or.inr ⟨by rfl, rfl⟩) ?_ ?_
                        rotate_left
                        · simp only [Act.put, List.setIfInBounds_toArray, List.set_cons_zero, List.set_cons_succ, i64_w, i32_w]
                          rfl
                        refine pure_ (i := 13) (N := some 67) (v := undef) (a' := ?_) #[true, true, true, true, true, true, true, true, true, true, true, true, true, true, false, false] rfl rfl (any_of HT_.out (by kernel_rfl)) (fun _ _ _ h => h) (Or.inr ⟨by rfl, rfl⟩) ?_ ?_
                        rotate_left
                        · simp only [Act.put, List.setIfInBounds_toArray, List.set_cons_zero, List.set_cons_succ, i64_w, i32_w]
                          rfl
                        refine pure_ (i := 14) (N := some 68) (v := undef) (a' := ?_) #[true, true, true, true, true, true, true, true, true, true, true, true, true, true, true, false] rfl rfl (any_of HT_.out (by kernel_rfl)) (fun _ _ _ h => h) (Or.inr ⟨by rfl, rfl⟩) ?_ ?_
                        rotate_left
                        · simp only [Act.put, List.setIfInBounds_toArray, List.set_cons_zero, List.set_cons_succ, i64_w, i32_w]
                          rfl
                        refine pure_ (i := 15) (N := some 69) (v := ?_) (a' := ?_) #[true, true, true, true, true, true, true, true, true, true, true, true, true, true, true, true] rfl rfl (any_of HT_.out (by kernel_rfl)) (fun _ _ _ h => h) (Or.inl ⟨by rfl, ?_⟩) ?_ ?_
                        rotate_left
                        · intro w'
                          go_simp
                          with_reducible rfl
                        rotate_left
                        · simp only [Act.put, List.setIfInBounds_toArray, List.set_cons_zero, List.set_cons_succ, i64_w, i32_w]
                          rfl
                        refine done_ (done_of HT_.out (by kernel_rfl)) ?_
                        try go_wp2
                        go_meet
                        case rel => exact ⟨_, (false), (by first | rfl | (simp; done) | (simp [*]; done)), H', ⟨by have := HJ3.out; have := HK2.out; have := HJ16.out; first | omega | exact Nat.le_refl _⟩, ⟨by (with_reducible repeat (first | apply Kd.N_alloc | apply Kd.N_drewN | apply Kd.N_drew)); exact HO_6.out⟩, ⟨by (with_reducible repeat (first | refine blk_drewN ?_ _ | refine blk_drew ?_ | refine blk_alloc ?_ _)); exact BK391.out⟩, ⟨by repeat (first | (with_reducible first | exact HB.out | apply below_alloc | apply pw_below_drewN | apply below_drew1 | refine below_set ?_ GE391.out) | exact HB.out)⟩⟩
                    case rest =>
                      clear HC27
                      try clear c1
                      try clear c2
                      try clear p2
                      try clear c3
                      try clear p3
                      try clear q3
                      try clear hx3
                      try clear c4
                      try clear p4
                      try clear q4
                      try clear hx4
                      try clear p6
                      try clear c7
                      try clear c8
                      try clear c8b0
                      try clear c9
                      try clear c9b0
                      try clear c10
                      try clear c13
                      try clear c16
                      try clear c16b0
                      try clear c19
                      try clear c19b0
                      try clear c21
                      try clear c26
                      try clear c28
                      try clear c28b0
                      try clear c29
                      try clear c29b0
                      try clear c30
                      try clear c30b0
                      try clear c33
                      try clear c33b0
                      try clear c34
                      try clear c34b0
                      try clear c37
                      try clear c39
                      try clear p39
                      try clear q39
                      try clear hx39
                      try clear hcz11_0
                      try clear hcz11_1
                      try clear hfz11_0
                      try clear hfz11_1
                      try clear hx397_0
                      try clear hx397_1
                      try clear hx399_0
                      try clear hx399_1
                      try clear hx401_0
                      try clear hx401_1
                      try clear hx403_0
                      try clear hx403_1
                      try clear p2
                      try clear p3
                      try clear p397
                      try clear p399
                      try clear p401
                      try clear p403
                      try clear q3
                      try clear q397
                      try clear q399
                      try clear q401
                      try clear q403
                      obtain ⟨kq, x69_26, rfl, HA, HJ26, HO_6, BK391, HB⟩ := hcut
                      cases kq with
                      | zero => exact absurd HA.out (by simp [roadbooklaw06_TreeAll.j3])
                      | succ kj26 =>
                        have H := HA.out
                        clear HA
                        simp only [roadbooklaw06_TreeAll.j3] at H
                        by_cases c40 : x69_26 = true
                        · subst c40
                          have H1 : (none) = some r := by rw [if_pos rfl] at H; exact H
                          clear H
                          have H := H1
                          clear H1
                          exact absurd H (by simp)
                        · replace c40 := Bool.eq_false_iff.mpr c40
                          subst c40
                          have H1 : (if 0 ≤ x9_2 then (if x9_2 < (t394.length : Int) then ((tree_Text.f kj26 ((rd_T39 t394 x9_2).f0) ((rd_T39 t394 x9_2).f1)).bind fun t406 => (if x8_2.size + t406.size ≤ 9223372036854775807 then (if (x8_2 ++ t406).size + 1 ≤ 9223372036854775807 then (if x7_2 = true then (roadbooklaw06_TreeAll.l0 kj26 a0 t394 true ((x8_2 ++ t406) ++ (⟨#[32]⟩ : ByteArray)) (wrap64 (x9_2 + 1)) a1_0 l1_1) else ((tree_Same.f kj26 ((rd_T39 t394 x9_2).f0) ((rd_T39 t394 x9_2).f1) a1_0 l1_1).bind fun t408 => (roadbooklaw06_TreeAll.l0 kj26 a0 t394 t408 ((x8_2 ++ t406) ++ (⟨#[32]⟩ : ByteArray)) (wrap64 (x9_2 + 1)) a1_0 l1_1))) else (none)) else (none))) else (none)) else (none)) = some r := by rw [if_neg (show ¬ (false = true) by decide)] at H; exact H
                          clear H
                          have H := H1
                          clear H1
                          by_cases c41 : 0 ≤ x9_2
                          · rw [if_pos c41] at H
                            have c41b0 : decide (0 ≤ x9_2) = true := decide_eq_true c41
                            clear c41
                            by_cases c42 : x9_2 < (t394.length : Int)
                            · rw [if_pos c42] at H
                              have c42b0 : decide (x9_2 < (t394.length : Int)) = true := decide_eq_true c42
                              clear c42
                              replace H := Option.bind_eq_some_iff.mp H
                              obtain ⟨t406, A430, H⟩ := H
                              replace H : (if x8_2.size + t406.size ≤ 9223372036854775807 then (if (x8_2 ++ t406).size + 1 ≤ 9223372036854775807 then (if x7_2 = true then (roadbooklaw06_TreeAll.l0 kj26 a0 t394 true ((x8_2 ++ t406) ++ (⟨#[32]⟩ : ByteArray)) (wrap64 (x9_2 + 1)) a1_0 l1_1) else ((tree_Same.f kj26 ((rd_T39 t394 x9_2).f0) ((rd_T39 t394 x9_2).f1) a1_0 l1_1).bind fun t408 => (roadbooklaw06_TreeAll.l0 kj26 a0 t394 t408 ((x8_2 ++ t406) ++ (⟨#[32]⟩ : ByteArray)) (wrap64 (x9_2 + 1)) a1_0 l1_1))) else (none)) else (none)) = some r := H
                              have A43 := Aside0.mk A430
                              clear A430
                              by_cases c44 : x8_2.size + t406.size ≤ 9223372036854775807
                              · rw [if_pos c44] at H
                                have c44b0 := eq_true c44
                                have c44b1 : decide (x8_2.size + t406.size ≤ 9223372036854775807) = true := decide_eq_true c44
                                try have c44b2 : (9223372036854775807 < x8_2.size + t406.size) = False := eq_false (Nat.not_lt.2 c44)
                                by_cases c45 : (x8_2 ++ t406).size + 1 ≤ 9223372036854775807
                                · rw [if_pos c45] at H
                                  have c45b0 := eq_true c45
                                  have c45b1 : decide ((x8_2 ++ t406).size + 1 ≤ 9223372036854775807) = true := decide_eq_true c45
                                  try have c45b2 : (9223372036854775807 < (x8_2 ++ t406).size + 1) = False := eq_false (Nat.not_lt.2 c45)
                                  try (have c45s := c45; simp only [ByteArray.size_append, ] at c45s; have c45t := eq_false (Nat.not_lt.2 c45s))
                                  by_cases c46 : x7_2 = true
                                  · subst c46
                                    have H1 : (roadbooklaw06_TreeAll.l0 kj26 a0 t394 true ((x8_2 ++ t406) ++ (⟨#[32]⟩ : ByteArray)) (wrap64 (x9_2 + 1)) a1_0 l1_1) = some r := by rw [if_pos rfl] at H; exact H
                                    clear H
                                    have H := H1
                                    clear H1
                                    have H' := Aside0.mk H
                                    clear H
                                    have p405 : 0 ≤ (x9_2 : Int) := of_decide_eq_true (by first | (with_reducible assumption) | assumption)
                                    have q405 : x9_2 < (t394.length : Int) := of_decide_eq_true (by first | (with_reducible assumption) | assumption)
                                    obtain ⟨ad405, A405_1, c405_1, e405, hx405_0, hx405_1, hl405_1, hi405_1⟩ := at_T39 (Kd.N_reads' HO_6.out).2.2 x9_2 p405 q405
                                    cases e405
                                    obtain ⟨ce405, hce405, hMe405, hcc405⟩ := Kd.N_get HO_6.out z39 x9_2 p405 (by first | exact q405 | exact of_decide_eq_true (by first | (with_reducible assumption) | assumption) | (have e_ := (Kd.N_reads' HO_6.out).1; omega))
                                    obtain ⟨ua405_1, uc405_1, rfl, ul405_1, ge405_1⟩ := k39_openF hMe405
                                    have hv405_1 := hcc405 1 _ rfl
                                    rw [add_field _ _ 1 (by omega)] at hv405_1
                                    replace hv405_1 := Option.some.inj (hv405_1.symm.trans hx405_1)
                                    injection hv405_1 with hva_ hvn_ hvc_
                                    rw [hva_] at ge405_1
                                    rw [hvc_] at ul405_1
                                    have HL405_1 := Aside0.mk (show Kd.V k39 39 _ w.heap.size _ _ ((rd_T39 t394 x9_2).f1) from Kd.V_mk ul405_1 ge405_1)
                                    clear hva_ hvn_ hvc_ ge405_1 ul405_1
                                    clear hcc405 hce405
                                    have HR405_1 := Aside0.mk hi405_1
                                    have HC405_1 := Aside0.mk hl405_1
                                    clear hi405_1 hl405_1
                                    replace p405 := eq_true p405
                                    replace q405 := eq_true q405
                                    try go_wp2_with (first | ((with_reducible refine gate_callee (f := 37) rfl ?_); refine goesL_ (some 75) rfl rfl Try.func37 (by kernel_rfl) rfl #[.agg #[.int .i64 ((rd_T39 t394 x9_2).f0), .slice A405_1 ((rd_T39 t394 x9_2).f1).length c405_1]] rfl (by (try simp only [List.map_toArray, List.map_cons, List.map_nil]); first | done | rfl | (simp only [List.length_drop, List.length_take]; rfl)) ?_; (with_reducible refine (tree_Text.calls kj26 ((rd_T39 t394 x9_2).f0) _ _ ((rd_T39 t394 x9_2).f1) t406 _ ?side1 ?side2 A43.out).mono ?_); (case side1 => repeat (first | exact (by repeat (first | (with_reducible exact HR405_1.out) | (with_reducible refine Kd.C_alloc ?_ _) | (with_reducible refine Kd.C_drewN ?_ _) | (with_reducible refine Kd.C_drew ?_) | exact HR405_1.out | exact Kd.F_now (Kd.V_at HL405_1.out).2.2)) | (with_reducible refine Kd.C_alloc ?_ _) | (with_reducible refine Kd.C_drewN ?_ _) | (with_reducible refine Kd.C_drew ?_))); (case side2 => exact HC405_1.out); rintro e w47 ⟨rfl, hb⟩; refine ⟨_, rfl, ?_⟩; have n0_ := Aside0.mk (Kd.N_below (by (with_reducible repeat (first | apply Kd.N_alloc | apply Kd.N_drewN | apply Kd.N_drew)); exact HO_6.out) hb); have n1_ := Aside0.mk (Kd.V_below (by (with_reducible repeat (first | apply Kd.V_alloc | apply Kd.V_drewN | apply Kd.V_drew)); exact HL405_1.out) hb); have n2_ := Aside0.mk (blk_below (g := gb391) (o := .cells #[.int .i64 a1_0, .slice A1_1 l1_1.length c1_1] 39 (0, 0)) (by (with_reducible repeat (first | refine blk_drewN ?_ _ | refine blk_drew ?_ | refine blk_alloc ?_ _)); exact BK391.out) hb); have n3_ := Aside0.mk (Kd.C_below (by repeat (first | (with_reducible exact HR405_1.out) | (with_reducible refine Kd.C_alloc ?_ _) | (with_reducible refine Kd.C_drewN ?_ _) | (with_reducible refine Kd.C_drew ?_) | exact HR405_1.out | exact Kd.F_now (Kd.V_at HL405_1.out).2.2)) hb); have n4_ := Aside0.mk (below_step (by repeat (first | (with_reducible first | exact HB.out | apply below_alloc | apply pw_below_drewN | apply below_drew1 | refine below_set ?_ GE391.out) | exact HB.out)) hb); clear HO_6; clear HL405_1; clear BK391; clear HR405_1; clear HB; have HO_6 := n0_; have HL405_1 := n1_; have BK391 := n2_; have HR405_1 := n3_; have HB := n4_; clear n0_ n1_ n2_ n3_ n4_; (try clear hb); (try clear hb2); (try clear hk); (try clear hi)))
                                    have n0_ := Aside0.mk (Kd.N_drew HO_6.out)
                                    have n1_ := Aside0.mk (Kd.V_drew HL405_1.out)
                                    have n2_ := Aside0.mk (blk_drew BK391.out)
                                    have n3_ := Aside0.mk (Kd.C_drew HR405_1.out)
                                    have n4_ := Aside0.mk (below_drew1 HB.out)
                                    clear HO_6
                                    clear HL405_1
                                    clear BK391
                                    clear HR405_1
                                    clear HB
                                    have HO_6 := n0_
                                    have HL405_1 := n1_
                                    have BK391 := n2_
                                    have HR405_1 := n3_
                                    have HB := n4_
                                    clear n0_ n1_ n2_ n3_ n4_
                                    refine start_ (n := 10) (S := fun w' => True) (ds := []) #[false, false, false, false, false, false, false, false, false, false] (by kernel_rfl) rfl rfl trivial (fun hHeld => ?_); refine with_tabW roadbooklaw06_TreeAll.tab15 roadbooklaw06_TreeAll.bits15 (fun HT_ HW_ => ?_)
                                    generalize w47.drew = w48 at HO_6 HL405_1 BK391 HR405_1 HB hHeld ⊢
                                    refine pure_ (i := 0) (N := some 78) (v := ?_) (a' := ?_) #[true, false, false, false, false, false, false, false, false, false] rfl rfl (any_of HT_.out (by kernel_rfl)) (fun _ _ _ h => h) (Or.inl ⟨by rfl, ?_⟩) ?_ ?_
                                    rotate_left
                                    · intro w'
                                      go_simp
                                      with_reducible rfl
                                    rotate_left
                                    · simp only [Act.put, List.setIfInBounds_toArray, List.set_cons_zero, List.set_cons_succ, i64_w, i32_w]
                                      rfl
                                    refine pure_ (i := 1) (N := some 79) (v := ?_) (a' := ?_) #[true, true, false, false, false, false, false, false, false, false] rfl rfl (any_of HT_.out (by kernel_rfl)) (fun _ _ _ h => h) (Or.inl ⟨by rfl, ?_⟩) ?_ ?_
                                    rotate_left
                                    · intro w'
                                      go_simp
                                      with_reducible rfl
                                    rotate_left
                                    · simp only [Act.put, List.setIfInBounds_toArray, List.set_cons_zero, List.set_cons_succ, i64_w, i32_w]
                                      rfl
                                    refine pure_ (i := 2) (N := some 80) (v := undef) (a' := ?_) #[true, true, true, false, false, false, false, false, false, false] rfl rfl (any_of HT_.out (by kernel_rfl)) (fun _ _ _ h => h) (Or.inr ⟨by rfl, rfl⟩) ?_ ?_
                                    rotate_left
                                    · simp only [Act.put, List.setIfInBounds_toArray, List.set_cons_zero, List.set_cons_succ, i64_w, i32_w]
                                      rfl
                                    refine pure_ (i := 3) (N := some 81) (v := undef) (a' := ?_) #[true, true, true, true, false, false, false, false, false, false] rfl rfl (any_of HT_.out (by kernel_rfl)) (fun _ _ _ h => h) (Or.inr ⟨by rfl, rfl⟩) ?_ ?_
                                    rotate_left
                                    · simp only [Act.put, List.setIfInBounds_toArray, List.set_cons_zero, List.set_cons_succ, i64_w, i32_w]
                                      rfl
                                    refine pure_ (i := 4) (N := some 82) (v := undef) (a' := ?_) #[true, true, true, true, true, false, false, false, false, false] rfl rfl (any_of HT_.out (by kernel_rfl)) (fun _ _ _ h => h) (Or.inr ⟨by rfl, rfl⟩) ?_ ?_
                                    rotate_left
                                    · simp only [Act.put, List.setIfInBounds_toArray, List.set_cons_zero, List.set_cons_succ, i64_w, i32_w]
                                      rfl
                                    refine pure_ (i := 5) (N := some 83) (v := undef) (a' := ?_) #[true, true, true, true, true, true, false, false, false, false] rfl rfl (any_of HT_.out (by kernel_rfl)) (fun _ _ _ h => h) (Or.inr ⟨by rfl, rfl⟩) ?_ ?_
                                    rotate_left
                                    · simp only [Act.put, List.setIfInBounds_toArray, List.set_cons_zero, List.set_cons_succ, i64_w, i32_w]
                                      rfl
                                    refine pure_ (i := 6) (N := some 84) (v := undef) (a' := ?_) #[true, true, true, true, true, true, true, false, false, false] rfl rfl (any_of HT_.out (by kernel_rfl)) (fun _ _ _ h => h) (Or.inr ⟨by rfl, rfl⟩) ?_ ?_
                                    rotate_left
                                    · simp only [Act.put, List.setIfInBounds_toArray, List.set_cons_zero, List.set_cons_succ, i64_w, i32_w]
                                      rfl
                                    refine pure_ (i := 7) (N := some 85) (v := undef) (a' := ?_) #[true, true, true, true, true, true, true, true, false, false] rfl rfl (any_of HT_.out (by kernel_rfl)) (fun _ _ _ h => h) (Or.inr ⟨by rfl, rfl⟩) ?_ ?_
                                    rotate_left
                                    · simp only [Act.put, List.setIfInBounds_toArray, List.set_cons_zero, List.set_cons_succ, i64_w, i32_w]
                                      rfl
                                    refine pure_ (i := 8) (N := some 86) (v := ?_) (a' := ?_) #[true, true, true, true, true, true, true, true, true, false] rfl rfl (any_of HT_.out (by kernel_rfl)) (fun _ _ _ h => h) (Or.inl ⟨by rfl, ?_⟩) ?_ ?_
                                    rotate_left
                                    · intro w'
                                      go_simp
                                      with_reducible rfl
                                    rotate_left
                                    · simp only [Act.put, List.setIfInBounds_toArray, List.set_cons_zero, List.set_cons_succ, i64_w, i32_w]
                                      rfl
                                    refine pure_ (i := 9) (N := some 7) (v := ?_) (a' := ?_) #[true, true, true, true, true, true, true, true, true, true] rfl rfl (any_of HT_.out (by kernel_rfl)) (fun _ _ _ h => h) (Or.inl ⟨by rfl, ?_⟩) ?_ ?_
                                    rotate_left
                                    · intro w'
                                      go_simp
                                      with_reducible rfl
                                    rotate_left
                                    · simp only [Act.put, List.setIfInBounds_toArray, List.set_cons_zero, List.set_cons_succ, i64_w, i32_w]
                                      rfl
                                    refine done_ (done_of HT_.out (by kernel_rfl)) ?_
                                    try go_wp2
                                    go_roundg kj26
                                    case measure => have := HJ3.out; have := HK2.out; have := HJ16.out; have := HJ26.out; omega
                                    case rel => exact ⟨(true), ((x8_2 ++ t406) ++ (⟨#[32]⟩ : ByteArray)), (wrap64 (x9_2 + 1)), (by first | rfl | (simp; done) | (simp [*]; done)), (by first | rfl | (simp; done) | (simp [*]; done)), (by first | rfl | (simp; done) | (simp [*]; done)), H', ⟨by have := HJ3.out; have := HK2.out; have := HJ16.out; have := HJ26.out; omega⟩, ⟨by (with_reducible repeat (first | apply Kd.N_alloc | apply Kd.N_drewN | apply Kd.N_drew)); exact HO_6.out⟩, ⟨by (with_reducible repeat (first | refine blk_drewN ?_ _ | refine blk_drew ?_ | refine blk_alloc ?_ _)); exact BK391.out⟩, ⟨by repeat (first | (with_reducible first | exact HB.out | apply below_alloc | apply pw_below_drewN | apply below_drew1 | refine below_set ?_ GE391.out) | exact HB.out)⟩⟩
                                  · replace c46 := Bool.eq_false_iff.mpr c46
                                    subst c46
                                    have H1 : ((tree_Same.f kj26 ((rd_T39 t394 x9_2).f0) ((rd_T39 t394 x9_2).f1) a1_0 l1_1).bind fun t408 => (roadbooklaw06_TreeAll.l0 kj26 a0 t394 t408 ((x8_2 ++ t406) ++ (⟨#[32]⟩ : ByteArray)) (wrap64 (x9_2 + 1)) a1_0 l1_1)) = some r := by rw [if_neg (show ¬ (false = true) by decide)] at H; exact H
                                    clear H
                                    have H := H1
                                    clear H1
                                    replace H := Option.bind_eq_some_iff.mp H
                                    obtain ⟨t408, A490, H⟩ := H
                                    replace H : (roadbooklaw06_TreeAll.l0 kj26 a0 t394 t408 ((x8_2 ++ t406) ++ (⟨#[32]⟩ : ByteArray)) (wrap64 (x9_2 + 1)) a1_0 l1_1) = some r := H
                                    have A49 := Aside0.mk A490
                                    clear A490
                                    have H' := Aside0.mk H
                                    clear H
                                    have p405 : 0 ≤ (x9_2 : Int) := of_decide_eq_true (by first | (with_reducible assumption) | assumption)
                                    have q405 : x9_2 < (t394.length : Int) := of_decide_eq_true (by first | (with_reducible assumption) | assumption)
                                    obtain ⟨ad405, A405_1, c405_1, e405, hx405_0, hx405_1, hl405_1, hi405_1⟩ := at_T39 (Kd.N_reads' HO_6.out).2.2 x9_2 p405 q405
                                    cases e405
                                    obtain ⟨ce405, hce405, hMe405, hcc405⟩ := Kd.N_get HO_6.out z39 x9_2 p405 (by first | exact q405 | exact of_decide_eq_true (by first | (with_reducible assumption) | assumption) | (have e_ := (Kd.N_reads' HO_6.out).1; omega))
                                    obtain ⟨ua405_1, uc405_1, rfl, ul405_1, ge405_1⟩ := k39_openF hMe405
                                    have hv405_1 := hcc405 1 _ rfl
                                    rw [add_field _ _ 1 (by omega)] at hv405_1
                                    replace hv405_1 := Option.some.inj (hv405_1.symm.trans hx405_1)
                                    injection hv405_1 with hva_ hvn_ hvc_
                                    rw [hva_] at ge405_1
                                    rw [hvc_] at ul405_1
                                    have HL405_1 := Aside0.mk (show Kd.V k39 39 _ w.heap.size _ _ ((rd_T39 t394 x9_2).f1) from Kd.V_mk ul405_1 ge405_1)
                                    clear hva_ hvn_ hvc_ ge405_1 ul405_1
                                    clear hcc405 hce405
                                    have HR405_1 := Aside0.mk hi405_1
                                    have HC405_1 := Aside0.mk hl405_1
                                    clear hi405_1 hl405_1
                                    replace p405 := eq_true p405
                                    replace q405 := eq_true q405
                                    try go_wp2_with (first | ((with_reducible refine gate_callee (f := 37) rfl ?_); refine goesL_ (some 75) rfl rfl Try.func37 (by kernel_rfl) rfl #[.agg #[.int .i64 ((rd_T39 t394 x9_2).f0), .slice A405_1 ((rd_T39 t394 x9_2).f1).length c405_1]] rfl (by (try simp only [List.map_toArray, List.map_cons, List.map_nil]); first | done | rfl | (simp only [List.length_drop, List.length_take]; rfl)) ?_; (with_reducible refine (tree_Text.calls kj26 ((rd_T39 t394 x9_2).f0) _ _ ((rd_T39 t394 x9_2).f1) t406 _ ?side1 ?side2 A43.out).mono ?_); (case side1 => repeat (first | exact (by repeat (first | (with_reducible exact HR405_1.out) | (with_reducible refine Kd.C_alloc ?_ _) | (with_reducible refine Kd.C_drewN ?_ _) | (with_reducible refine Kd.C_drew ?_) | exact HR405_1.out | exact Kd.F_now (Kd.V_at HL405_1.out).2.2)) | (with_reducible refine Kd.C_alloc ?_ _) | (with_reducible refine Kd.C_drewN ?_ _) | (with_reducible refine Kd.C_drew ?_))); (case side2 => exact HC405_1.out); rintro e w50 ⟨rfl, hb⟩; refine ⟨_, rfl, ?_⟩; have n0_ := Aside0.mk (Kd.N_below (by (with_reducible repeat (first | apply Kd.N_alloc | apply Kd.N_drewN | apply Kd.N_drew)); exact HO_6.out) hb); have n1_ := Aside0.mk (Kd.V_below (by (with_reducible repeat (first | apply Kd.V_alloc | apply Kd.V_drewN | apply Kd.V_drew)); exact HL405_1.out) hb); have n2_ := Aside0.mk (blk_below (g := gb391) (o := .cells #[.int .i64 a1_0, .slice A1_1 l1_1.length c1_1] 39 (0, 0)) (by (with_reducible repeat (first | refine blk_drewN ?_ _ | refine blk_drew ?_ | refine blk_alloc ?_ _)); exact BK391.out) hb); have n3_ := Aside0.mk (Kd.C_below (by repeat (first | (with_reducible exact HR405_1.out) | (with_reducible refine Kd.C_alloc ?_ _) | (with_reducible refine Kd.C_drewN ?_ _) | (with_reducible refine Kd.C_drew ?_) | exact HR405_1.out | exact Kd.F_now (Kd.V_at HL405_1.out).2.2)) hb); have n4_ := Aside0.mk (below_step (by repeat (first | (with_reducible first | exact HB.out | apply below_alloc | apply pw_below_drewN | apply below_drew1 | refine below_set ?_ GE391.out) | exact HB.out)) hb); clear HO_6; clear HL405_1; clear BK391; clear HR405_1; clear HB; have HO_6 := n0_; have HL405_1 := n1_; have BK391 := n2_; have HR405_1 := n3_; have HB := n4_; clear n0_ n1_ n2_ n3_ n4_; (try clear hb); (try clear hb2); (try clear hk); (try clear hi)))
                                    have n0_ := Aside0.mk (Kd.N_drew HO_6.out)
                                    have n1_ := Aside0.mk (Kd.V_drew HL405_1.out)
                                    have n2_ := Aside0.mk (blk_drew BK391.out)
                                    have n3_ := Aside0.mk (Kd.C_drew HR405_1.out)
                                    have n4_ := Aside0.mk (below_drew1 HB.out)
                                    clear HO_6
                                    clear HL405_1
                                    clear BK391
                                    clear HR405_1
                                    clear HB
                                    have HO_6 := n0_
                                    have HL405_1 := n1_
                                    have BK391 := n2_
                                    have HR405_1 := n3_
                                    have HB := n4_
                                    clear n0_ n1_ n2_ n3_ n4_
                                    have p407 : 0 ≤ (x9_2 : Int) := of_decide_eq_true (by first | (with_reducible assumption) | assumption)
                                    have q407 : x9_2 < (t394.length : Int) := of_decide_eq_true (by first | (with_reducible assumption) | assumption)
                                    obtain ⟨ad407, A407_1, c407_1, e407, hx407_0, hx407_1, hl407_1, hi407_1⟩ := at_T39 (Kd.N_reads' HO_6.out).2.2 x9_2 p407 q407
                                    obtain rfl : ad405 = ad407 := (by injection e407)
                                    obtain ⟨ce407, hce407, hMe407, hcc407⟩ := Kd.N_get HO_6.out z39 x9_2 p407 (by first | exact q407 | exact of_decide_eq_true (by first | (with_reducible assumption) | assumption) | (have e_ := (Kd.N_reads' HO_6.out).1; omega))
                                    obtain ⟨ua407_1, uc407_1, rfl, ul407_1, ge407_1⟩ := k39_openF hMe407
                                    have hv407_1 := hcc407 1 _ rfl
                                    rw [add_field _ _ 1 (by omega)] at hv407_1
                                    replace hv407_1 := Option.some.inj (hv407_1.symm.trans hx407_1)
                                    injection hv407_1 with hva_ hvn_ hvc_
                                    rw [hva_] at ge407_1
                                    rw [hvc_] at ul407_1
                                    have HL407_1 := Aside0.mk (show Kd.V k39 39 _ w.heap.size _ _ ((rd_T39 t394 x9_2).f1) from Kd.V_mk ul407_1 ge407_1)
                                    clear hva_ hvn_ hvc_ ge407_1 ul407_1
                                    clear hcc407 hce407
                                    have HR407_1 := Aside0.mk hi407_1
                                    have HC407_1 := Aside0.mk hl407_1
                                    clear hi407_1 hl407_1
                                    replace p407 := eq_true p407
                                    replace q407 := eq_true q407
                                    refine start_ (n := 10) (S := fun w' => w'.cell? ⟨gb391, 0, none⟩ = some (.int .i64 a1_0) ∧ w'.cell? ⟨gb391, 1, none⟩ = some (.slice A1_1 l1_1.length c1_1) ∧ w'.cell? (ad405.add ((x9_2).toNat * 2)) = some (.int .i64 ((rd_T39 t394 x9_2).f0)) ∧ w'.cell? ⟨(ad405.add ((x9_2).toNat * 2)).block, (ad405.add ((x9_2).toNat * 2)).off + 1, none⟩ = some (.slice A407_1 ((rd_T39 t394 x9_2).f1).length c407_1)) (ds := []) #[false, false, false, false, false, false, false, false, false, false] (by kernel_rfl) rfl rfl ⟨(blk_cell BK391.out 0).trans rfl, (blk_cell BK391.out 1).trans rfl, hx407_0, hx407_1⟩ (fun hHeld => ?_); refine with_tabW roadbooklaw06_TreeAll.tab15 roadbooklaw06_TreeAll.bits15 (fun HT_ HW_ => ?_)
                                    generalize w50.drew = w51 at HO_6 HL405_1 BK391 HR405_1 HB HL407_1 HR407_1 hx407_0 hx407_1 hHeld ⊢
                                    refine pure_ (i := 0) (N := some 78) (v := ?_) (a' := ?_) #[true, false, false, false, false, false, false, false, false, false] rfl rfl (any_of HT_.out (by kernel_rfl)) (fun _ _ _ h => h) (Or.inl ⟨by rfl, ?_⟩) ?_ ?_
                                    rotate_left
                                    · intro w'
                                      go_simp
                                      with_reducible rfl
                                    rotate_left
                                    · simp only [Act.put, List.setIfInBounds_toArray, List.set_cons_zero, List.set_cons_succ, i64_w, i32_w]
                                      rfl
                                    refine pure_ (i := 1) (N := some 79) (v := ?_) (a' := ?_) #[true, true, false, false, false, false, false, false, false, false] rfl rfl (any_of HT_.out (by kernel_rfl)) (fun _ _ _ h => h) (Or.inl ⟨by rfl, ?_⟩) ?_ ?_
                                    rotate_left
                                    · intro w'
                                      go_simp
                                      with_reducible rfl
                                    rotate_left
                                    · simp only [Act.put, List.setIfInBounds_toArray, List.set_cons_zero, List.set_cons_succ, i64_w, i32_w]
                                      rfl
                                    refine pure_ (i := 2) (N := some 80) (v := ?_) (a' := ?_) #[true, true, true, false, false, false, false, false, false, false] rfl rfl (any_of HT_.out (by kernel_rfl)) (fun _ _ _ h => h) (Or.inl ⟨by rfl, ?_⟩) ?_ ?_
                                    rotate_left
                                    · intro w'
                                      go_simp
                                      with_reducible rfl
                                    rotate_left
                                    · simp only [Act.put, List.setIfInBounds_toArray, List.set_cons_zero, List.set_cons_succ, i64_w, i32_w]
                                      rfl
                                    refine pure_ (i := 3) (N := some 81) (v := ?_) (a' := ?_) #[true, true, true, true, false, false, false, false, false, false] rfl rfl (any_of HT_.out (by kernel_rfl)) (fun _ _ _ h => h) (Or.inl ⟨by rfl, ?_⟩) ?_ ?_
                                    rotate_left
                                    · intro w'
                                      go_simp
                                      with_reducible rfl
                                    rotate_left
                                    · simp only [Act.put, List.setIfInBounds_toArray, List.set_cons_zero, List.set_cons_succ, i64_w, i32_w]
                                      rfl
                                    refine pure_ (i := 4) (N := some 82) (v := ?_) (a' := ?_) #[true, true, true, true, true, false, false, false, false, false] rfl rfl (any_of HT_.out (by kernel_rfl)) (fun _ _ _ h => h) (Or.inl ⟨by rfl, ?_⟩) ?_ ?_
                                    rotate_left
                                    · intro w'
                                      go_simp
                                      with_reducible rfl
                                    rotate_left
                                    · simp only [Act.put, List.setIfInBounds_toArray, List.set_cons_zero, List.set_cons_succ, i64_w, i32_w]
                                      rfl
                                    refine take_ (i := 5) (N := some 83) (v := ?_) (a' := ?_) #[true, true, true, true, true, true, false, false, false, false] rfl rfl (take_ofW HT_.out HW_.out (by kernel_rfl)) (fun _ _ _ h => h) (Or.inl ⟨by rfl, ?_⟩) hHeld ?_ ?_
                                    rotate_left
                                    · rintro w' ⟨s0, s1, s2, s3⟩
                                      go_simp
                                      with_reducible rfl
                                    rotate_left
                                    · simp only [Act.put, List.setIfInBounds_toArray, List.set_cons_zero, List.set_cons_succ, i64_w, i32_w]
                                      rfl
                                    refine take_ (i := 6) (N := some 84) (v := ?_) (a' := ?_) #[true, true, true, true, true, true, true, false, false, false] rfl rfl (take_ofW HT_.out HW_.out (by kernel_rfl)) (fun _ _ _ h => h) (Or.inl ⟨by rfl, ?_⟩) hHeld ?_ ?_
                                    rotate_left
                                    · rintro w' ⟨s0, s1, s2, s3⟩
                                      go_simp
                                      with_reducible rfl
                                    rotate_left
                                    · simp only [Act.put, List.setIfInBounds_toArray, List.set_cons_zero, List.set_cons_succ, i64_w, i32_w]
                                      rfl
                                    refine one_ (i := 7) (N := some 85) #[true, true, true, true, true, true, true, true, false, false] rfl rfl (one_of HT_.out (by kernel_rfl)) (by decide) (fun K hK => ?_)
                                    refine goes_ Try.func39 (by kernel_rfl) rfl #[.agg #[.int .i64 ((rd_T39 t394 x9_2).f0), .slice A407_1 ((rd_T39 t394 x9_2).f1).length c407_1], .agg #[.int .i64 a1_0, .slice A1_1 l1_1.length c1_1]] (by rfl) rfl rfl (by (try simp only [List.map_toArray, List.map_cons, List.map_nil]); first | done | rfl | (simp only [List.length_drop, List.length_take]; rfl)) ?_
                                    with_reducible refine (tree_Same.calls kj26 ((rd_T39 t394 x9_2).f0) _ _ ((rd_T39 t394 x9_2).f1) a1_0 _ _ l1_1 t408 _ ?side1 ?side2 ?side3 ?side4 A49.out).mono ?_
                                    (case side1 => repeat (first | exact (by repeat (first | (with_reducible exact HR407_1.out) | (with_reducible refine Kd.C_alloc ?_ _) | (with_reducible refine Kd.C_drewN ?_ _) | (with_reducible refine Kd.C_drew ?_) | exact HR407_1.out | exact Kd.F_now (Kd.V_at HL407_1.out).2.2)) | (with_reducible refine Kd.C_alloc ?_ _) | (with_reducible refine Kd.C_drewN ?_ _) | (with_reducible refine Kd.C_drew ?_)))
                                    (case side2 => exact HC407_1.out)
                                    (case side3 => repeat (first | exact (Kd.C_below HR1_1.out HB.out) | (with_reducible refine Kd.C_alloc ?_ _) | (with_reducible refine Kd.C_drewN ?_ _) | (with_reducible refine Kd.C_drew ?_)))
                                    (case side4 => exact HC1_1.out)
                                    rintro e w52 ⟨rfl, hb⟩
                                    have HS2_ := (hb.cell (World.block_lt_of_cell? _ _ (hHeld.2.2.1))).trans (hHeld.2.2.1)
                                    have HS3_ := (hb.cell (World.block_lt_of_cell? _ _ (hHeld.2.2.2))).trans (hHeld.2.2.2)
                                    refine ⟨_, rfl, ?_⟩
                                    have n0_ := Aside0.mk (Kd.N_below (by (with_reducible repeat (first | apply Kd.N_alloc | apply Kd.N_drewN | apply Kd.N_drew)); exact HO_6.out) hb)
                                    have n1_ := Aside0.mk (Kd.V_below (by (with_reducible repeat (first | apply Kd.V_alloc | apply Kd.V_drewN | apply Kd.V_drew)); exact HL405_1.out) hb)
                                    have n2_ := Aside0.mk (Kd.V_below (by (with_reducible repeat (first | apply Kd.V_alloc | apply Kd.V_drewN | apply Kd.V_drew)); exact HL407_1.out) hb)
                                    have n3_ := Aside0.mk (blk_below (g := gb391) (o := .cells #[.int .i64 a1_0, .slice A1_1 l1_1.length c1_1] 39 (0, 0)) (by (with_reducible repeat (first | refine blk_drewN ?_ _ | refine blk_drew ?_ | refine blk_alloc ?_ _)); exact BK391.out) hb)
                                    have n4_ := Aside0.mk (Kd.C_below (by repeat (first | (with_reducible exact HR405_1.out) | (with_reducible refine Kd.C_alloc ?_ _) | (with_reducible refine Kd.C_drewN ?_ _) | (with_reducible refine Kd.C_drew ?_) | exact HR405_1.out | exact Kd.F_now (Kd.V_at HL405_1.out).2.2)) hb)
                                    have n5_ := Aside0.mk (Kd.C_below (by repeat (first | (with_reducible exact HR407_1.out) | (with_reducible refine Kd.C_alloc ?_ _) | (with_reducible refine Kd.C_drewN ?_ _) | (with_reducible refine Kd.C_drew ?_) | exact HR407_1.out | exact Kd.F_now (Kd.V_at HL407_1.out).2.2)) hb)
                                    have n6_ := Aside0.mk (below_step (by repeat (first | (with_reducible first | exact HB.out | apply below_alloc | apply pw_below_drewN | apply below_drew1 | refine below_set ?_ GE391.out) | exact HB.out)) hb)
                                    clear HO_6
                                    clear HL405_1
                                    clear HL407_1
                                    clear BK391
                                    clear HR405_1
                                    clear HR407_1
                                    clear HB
                                    have HO_6 := n0_
                                    have HL405_1 := n1_
                                    have HL407_1 := n2_
                                    have BK391 := n3_
                                    have HR405_1 := n4_
                                    have HR407_1 := n5_
                                    have HB := n6_
                                    clear n0_ n1_ n2_ n3_ n4_ n5_ n6_
                                    (try clear hb)
                                    (try clear hb2)
                                    (try clear hk)
                                    (try clear hi)
                                    refine hK.out _ _ ⟨(blk_cell BK391.out 0).trans rfl, (blk_cell BK391.out 1).trans rfl, HS2_, HS3_⟩ (fun hHeld => ?_)
                                    clear hK K
                                    refine norm_ (a' := ?_) ?_ ?_
                                    rotate_left
                                    · show Act.put _ (some 85) _ = _
                                      simp only [Act.put, List.setIfInBounds_toArray, List.set_cons_zero, List.set_cons_succ, i64_w, i32_w]
                                      rfl
                                    refine pure_ (i := 8) (N := some 86) (v := ?_) (a' := ?_) #[true, true, true, true, true, true, true, true, true, false] rfl rfl (any_of HT_.out (by kernel_rfl)) (fun _ _ _ h => h) (Or.inl ⟨by rfl, ?_⟩) ?_ ?_
                                    rotate_left
                                    · intro w'
                                      go_simp
                                      with_reducible rfl
                                    rotate_left
                                    · simp only [Act.put, List.setIfInBounds_toArray, List.set_cons_zero, List.set_cons_succ, i64_w, i32_w]
                                      rfl
                                    refine pure_ (i := 9) (N := some 7) (v := ?_) (a' := ?_) #[true, true, true, true, true, true, true, true, true, true] rfl rfl (any_of HT_.out (by kernel_rfl)) (fun _ _ _ h => h) (Or.inl ⟨by rfl, ?_⟩) ?_ ?_
                                    rotate_left
                                    · intro w'
                                      go_simp
                                      with_reducible rfl
                                    rotate_left
                                    · simp only [Act.put, List.setIfInBounds_toArray, List.set_cons_zero, List.set_cons_succ, i64_w, i32_w]
                                      rfl
                                    refine done_ (done_of HT_.out (by kernel_rfl)) ?_
                                    try go_wp2
                                    go_roundg kj26
                                    case measure => have := HJ3.out; have := HK2.out; have := HJ16.out; have := HJ26.out; omega
                                    case rel => exact ⟨(t408), ((x8_2 ++ t406) ++ (⟨#[32]⟩ : ByteArray)), (wrap64 (x9_2 + 1)), (by first | rfl | (simp; done) | (simp [*]; done)), (by first | rfl | (simp; done) | (simp [*]; done)), (by first | rfl | (simp; done) | (simp [*]; done)), H', ⟨by have := HJ3.out; have := HK2.out; have := HJ16.out; have := HJ26.out; omega⟩, ⟨by (with_reducible repeat (first | apply Kd.N_alloc | apply Kd.N_drewN | apply Kd.N_drew)); exact HO_6.out⟩, ⟨by (with_reducible repeat (first | refine blk_drewN ?_ _ | refine blk_drew ?_ | refine blk_alloc ?_ _)); exact BK391.out⟩, ⟨by repeat (first | (with_reducible first | exact HB.out | apply below_alloc | apply pw_below_drewN | apply below_drew1 | refine below_set ?_ GE391.out) | exact HB.out)⟩⟩
                                · rw [if_neg c45] at H
                                  exact absurd H (by simp)
                              · rw [if_neg c44] at H
                                exact absurd H (by simp)
                            · rw [if_neg c42] at H
                              exact absurd H (by simp)
                          · rw [if_neg c41] at H
                            exact absurd H (by simp)
            · rw [if_neg c16] at H
              have c16b0 : decide (x9_2 < (t394.length : Int)) = false := decide_eq_false c16
              clear c16
              have H' := Aside0.mk H
              clear H
              obtain ⟨Ao53, co53, eo53⟩ := Kd.N_slice HO_6.out
              subst eo53
              go_wp2
              go_loopg [10] k2 (fun kq v10 w' => ∃ (x10_3 : Int), v10 = .int .i64 x10_3 ∧ Aside0 (roadbooklaw06_TreeAll.l1 kq a0 t394 x7_2 x8_2 x10_3 a1_0 l1_1 = some r) ∧ Aside0 (kq ≤ k2) ∧ Aside0 (Kd.N k39 39 w' w.heap.size (fun k_ => k_ ≠ gb391) (.slice Ao53 t394.length co53) t394) ∧ Aside0 (w'.heap[gb391]? = some (.cells #[.int .i64 a1_0, (.slice A1_1 l1_1.length c1_1)] 39 (0, 0))) ∧ Aside0 (Below w.heap.size w w'))
              case atStart => exact ⟨(0), (by first | rfl | (simp; done) | (simp [*]; done)), H', ⟨Nat.le_refl _⟩, ⟨by (with_reducible repeat (first | apply Kd.N_alloc | apply Kd.N_drewN | apply Kd.N_drew)); exact HO_6.out⟩, ⟨by (with_reducible repeat (first | refine blk_drewN ?_ _ | refine blk_drew ?_ | refine blk_alloc ?_ _)); exact BK391.out⟩, ⟨by repeat (first | (with_reducible first | exact HB.out | apply below_alloc | apply pw_below_drewN | apply below_drew1 | refine below_set ?_ GE391.out) | exact HB.out)⟩⟩
              case round =>
                clear H'
                try clear c1
                try clear c2
                try clear p2
                try clear c3
                try clear p3
                try clear q3
                try clear hx3
                try clear c4
                try clear p4
                try clear q4
                try clear hx4
                try clear p6
                try clear c7
                try clear c8
                try clear c8b0
                try clear c9
                try clear c9b0
                try clear c10
                try clear c13
                try clear c16
                try clear c16b0
                try clear c19
                try clear c19b0
                try clear c21
                try clear c26
                try clear c28
                try clear c28b0
                try clear c29
                try clear c29b0
                try clear c30
                try clear c30b0
                try clear c33
                try clear c33b0
                try clear c34
                try clear c34b0
                try clear c37
                try clear c39
                try clear p39
                try clear q39
                try clear hx39
                try clear c40
                try clear p40
                try clear q40
                try clear hx40
                try clear c41
                try clear c41b0
                try clear c42
                try clear c42b0
                try clear c44
                try clear c44b0
                try clear c44b1
                try clear c44b2
                try clear c45
                try clear c45b0
                try clear c45b1
                try clear c45b2
                try clear c46
                try clear hcz11_0
                try clear hcz11_1
                try clear hfz11_0
                try clear hfz11_1
                try clear hx397_0
                try clear hx397_1
                try clear hx399_0
                try clear hx399_1
                try clear hx401_0
                try clear hx401_1
                try clear hx403_0
                try clear hx403_1
                try clear hx405_0
                try clear hx405_1
                try clear hx407_0
                try clear hx407_1
                try clear p2
                try clear p3
                try clear p39
                try clear p397
                try clear p399
                try clear p4
                try clear p401
                try clear p403
                try clear p405
                try clear p407
                try clear p6
                try clear q3
                try clear q39
                try clear q397
                try clear q399
                try clear q4
                try clear q401
                try clear q403
                try clear q405
                try clear q407
                obtain ⟨x10_3, rfl, HA, HK3, HO_6, BK391, HB⟩ := hrel
                cases gk with
                | zero => exact absurd HA.out (by simp [roadbooklaw06_TreeAll.l1])
                | succ k3 =>
                  have H := HA.out
                  clear HA
                  simp only [roadbooklaw06_TreeAll.l1] at H
                  by_cases c54 : x10_3 < (t394.length : Int)
                  · rw [if_pos c54] at H
                    have c54b0 : decide (x10_3 < (t394.length : Int)) = true := decide_eq_true c54
                    clear c54
                    have H' := Aside0.mk H
                    clear H
                    go_wp2
                    go_loopg [11] k3 (fun kq v11 w' => ∃ (x11_4 : Int), v11 = .int .i64 x11_4 ∧ Aside0 (roadbooklaw06_TreeAll.l2 kq a0 t394 x7_2 x8_2 x10_3 x11_4 a1_0 l1_1 = some r) ∧ Aside0 (kq ≤ k3) ∧ Aside0 (Kd.N k39 39 w' w.heap.size (fun k_ => k_ ≠ gb391) (.slice Ao53 t394.length co53) t394) ∧ Aside0 (w'.heap[gb391]? = some (.cells #[.int .i64 a1_0, (.slice A1_1 l1_1.length c1_1)] 39 (0, 0))) ∧ Aside0 (Below w.heap.size w w'))
                    case atStart => exact ⟨(0), (by first | rfl | (simp; done) | (simp [*]; done)), H', ⟨Nat.le_refl _⟩, ⟨by (with_reducible repeat (first | apply Kd.N_alloc | apply Kd.N_drewN | apply Kd.N_drew)); exact HO_6.out⟩, ⟨by (with_reducible repeat (first | refine blk_drewN ?_ _ | refine blk_drew ?_ | refine blk_alloc ?_ _)); exact BK391.out⟩, ⟨by repeat (first | (with_reducible first | exact HB.out | apply below_alloc | apply pw_below_drewN | apply below_drew1 | refine below_set ?_ GE391.out) | exact HB.out)⟩⟩
                    case round =>
                      clear H'
                      try clear c1
                      try clear c2
                      try clear p2
                      try clear c3
                      try clear p3
                      try clear q3
                      try clear hx3
                      try clear c4
                      try clear p4
                      try clear q4
                      try clear hx4
                      try clear c5
                      try clear p6
                      try clear c7
                      try clear c8
                      try clear c8b0
                      try clear c9
                      try clear c9b0
                      try clear c10
                      try clear c13
                      try clear c16
                      try clear c16b0
                      try clear c19
                      try clear c19b0
                      try clear c21
                      try clear c26
                      try clear c28
                      try clear c28b0
                      try clear c29
                      try clear c29b0
                      try clear c30
                      try clear c30b0
                      try clear c33
                      try clear c33b0
                      try clear c34
                      try clear c34b0
                      try clear c37
                      try clear c39
                      try clear p39
                      try clear q39
                      try clear hx39
                      try clear c40
                      try clear p40
                      try clear q40
                      try clear hx40
                      try clear c41
                      try clear c41b0
                      try clear c42
                      try clear c42b0
                      try clear c44
                      try clear c44b0
                      try clear c44b1
                      try clear c44b2
                      try clear c45
                      try clear c45b0
                      try clear c45b1
                      try clear c45b2
                      try clear c46
                      try clear c54
                      try clear c54b0
                      try clear hcz11_0
                      try clear hcz11_1
                      try clear hfz11_0
                      try clear hfz11_1
                      try clear hx397_0
                      try clear hx397_1
                      try clear hx399_0
                      try clear hx399_1
                      try clear hx401_0
                      try clear hx401_1
                      try clear hx403_0
                      try clear hx403_1
                      try clear hx405_0
                      try clear hx405_1
                      try clear hx407_0
                      try clear hx407_1
                      try clear p2
                      try clear p3
                      try clear p39
                      try clear p397
                      try clear p399
                      try clear p4
                      try clear p40
                      try clear p401
                      try clear p403
                      try clear p405
                      try clear p407
                      try clear p6
                      try clear q3
                      try clear q39
                      try clear q397
                      try clear q399
                      try clear q4
                      try clear q40
                      try clear q401
                      try clear q403
                      try clear q405
                      try clear q407
                      obtain ⟨x11_4, rfl, HA, HK4, HO_6, BK391, HB⟩ := hrel
                      cases gk with
                      | zero => exact absurd HA.out (by simp [roadbooklaw06_TreeAll.l2])
                      | succ k4 =>
                        have H := HA.out
                        clear HA
                        simp only [roadbooklaw06_TreeAll.l2] at H
                        by_cases c55 : x11_4 < x10_3
                        · rw [if_pos c55] at H
                          have c55b0 : decide (x11_4 < x10_3) = true := decide_eq_true c55
                          clear c55
                          by_cases c56 : 0 ≤ x10_3
                          · rw [if_pos c56] at H
                            have c56b0 : decide (0 ≤ x10_3) = true := decide_eq_true c56
                            clear c56
                            by_cases c57 : x10_3 < (t394.length : Int)
                            · rw [if_pos c57] at H
                              have c57b0 : decide (x10_3 < (t394.length : Int)) = true := decide_eq_true c57
                              clear c57
                              by_cases c58 : 0 ≤ x11_4
                              · rw [if_pos c58] at H
                                have c58b0 : decide (0 ≤ x11_4) = true := decide_eq_true c58
                                clear c58
                                by_cases c59 : x11_4 < (t394.length : Int)
                                · rw [if_pos c59] at H
                                  have c59b0 : decide (x11_4 < (t394.length : Int)) = true := decide_eq_true c59
                                  clear c59
                                  replace H := Option.bind_eq_some_iff.mp H
                                  obtain ⟨t416, A600, H⟩ := H
                                  replace H : (if t416 = true then (none) else (roadbooklaw06_TreeAll.l2 k4 a0 t394 x7_2 x8_2 x10_3 (wrap64 (x11_4 + 1)) a1_0 l1_1)) = some r := H
                                  have A60 := Aside0.mk A600
                                  clear A600
                                  by_cases c61 : t416 = true
                                  · subst c61
                                    have H1 : (none) = some r := by rw [if_pos rfl] at H; exact H
                                    clear H
                                    have H := H1
                                    clear H1
                                    exact absurd H (by simp)
                                  · replace c61 := Bool.eq_false_iff.mpr c61
                                    subst c61
                                    have H1 : (roadbooklaw06_TreeAll.l2 k4 a0 t394 x7_2 x8_2 x10_3 (wrap64 (x11_4 + 1)) a1_0 l1_1) = some r := by rw [if_neg (show ¬ (false = true) by decide)] at H; exact H
                                    clear H
                                    have H := H1
                                    clear H1
                                    have H' := Aside0.mk H
                                    clear H
                                    try go_wp2
                                    have n0_ := Aside0.mk (Kd.N_drew HO_6.out)
                                    have n1_ := Aside0.mk (blk_drew BK391.out)
                                    have n2_ := Aside0.mk (below_drew1 HB.out)
                                    clear HO_6
                                    clear BK391
                                    clear HB
                                    have HO_6 := n0_
                                    have BK391 := n1_
                                    have HB := n2_
                                    clear n0_ n1_ n2_
                                    have p414 : 0 ≤ (x10_3 : Int) := of_decide_eq_true (by first | (with_reducible assumption) | assumption)
                                    have q414 : x10_3 < (t394.length : Int) := of_decide_eq_true (by first | (with_reducible assumption) | assumption)
                                    obtain ⟨ad414, A414_1, c414_1, e414, hx414_0, hx414_1, hl414_1, hi414_1⟩ := at_T39 (Kd.N_reads' HO_6.out).2.2 x10_3 p414 q414
                                    cases e414
                                    obtain ⟨ce414, hce414, hMe414, hcc414⟩ := Kd.N_get HO_6.out z39 x10_3 p414 (by first | exact q414 | exact of_decide_eq_true (by first | (with_reducible assumption) | assumption) | (have e_ := (Kd.N_reads' HO_6.out).1; omega))
                                    obtain ⟨ua414_1, uc414_1, rfl, ul414_1, ge414_1⟩ := k39_openF hMe414
                                    have hv414_1 := hcc414 1 _ rfl
                                    rw [add_field _ _ 1 (by omega)] at hv414_1
                                    replace hv414_1 := Option.some.inj (hv414_1.symm.trans hx414_1)
                                    injection hv414_1 with hva_ hvn_ hvc_
                                    rw [hva_] at ge414_1
                                    rw [hvc_] at ul414_1
                                    have HL414_1 := Aside0.mk (show Kd.V k39 39 _ w.heap.size _ _ ((rd_T39 t394 x10_3).f1) from Kd.V_mk ul414_1 ge414_1)
                                    clear hva_ hvn_ hvc_ ge414_1 ul414_1
                                    clear hcc414 hce414
                                    have HR414_1 := Aside0.mk hi414_1
                                    have HC414_1 := Aside0.mk hl414_1
                                    clear hi414_1 hl414_1
                                    replace p414 := eq_true p414
                                    replace q414 := eq_true q414
                                    have p415 : 0 ≤ (x11_4 : Int) := of_decide_eq_true (by first | (with_reducible assumption) | assumption)
                                    have q415 : x11_4 < (t394.length : Int) := of_decide_eq_true (by first | (with_reducible assumption) | assumption)
                                    obtain ⟨ad415, A415_1, c415_1, e415, hx415_0, hx415_1, hl415_1, hi415_1⟩ := at_T39 (Kd.N_reads' HO_6.out).2.2 x11_4 p415 q415
                                    obtain rfl : ad414 = ad415 := (by injection e415)
                                    obtain ⟨ce415, hce415, hMe415, hcc415⟩ := Kd.N_get HO_6.out z39 x11_4 p415 (by first | exact q415 | exact of_decide_eq_true (by first | (with_reducible assumption) | assumption) | (have e_ := (Kd.N_reads' HO_6.out).1; omega))
                                    obtain ⟨ua415_1, uc415_1, rfl, ul415_1, ge415_1⟩ := k39_openF hMe415
                                    have hv415_1 := hcc415 1 _ rfl
                                    rw [add_field _ _ 1 (by omega)] at hv415_1
                                    replace hv415_1 := Option.some.inj (hv415_1.symm.trans hx415_1)
                                    injection hv415_1 with hva_ hvn_ hvc_
                                    rw [hva_] at ge415_1
                                    rw [hvc_] at ul415_1
                                    have HL415_1 := Aside0.mk (show Kd.V k39 39 _ w.heap.size _ _ ((rd_T39 t394 x11_4).f1) from Kd.V_mk ul415_1 ge415_1)
                                    clear hva_ hvn_ hvc_ ge415_1 ul415_1
                                    clear hcc415 hce415
                                    have HR415_1 := Aside0.mk hi415_1
                                    have HC415_1 := Aside0.mk hl415_1
                                    clear hi415_1 hl415_1
                                    replace p415 := eq_true p415
                                    replace q415 := eq_true q415
                                    refine start_ (n := 9) (S := fun w' => w'.cell? (ad414.add ((x10_3).toNat * 2)) = some (.int .i64 ((rd_T39 t394 x10_3).f0)) ∧ w'.cell? ⟨(ad414.add ((x10_3).toNat * 2)).block, (ad414.add ((x10_3).toNat * 2)).off + 1, none⟩ = some (.slice A414_1 ((rd_T39 t394 x10_3).f1).length c414_1) ∧ w'.cell? (ad414.add ((x11_4).toNat * 2)) = some (.int .i64 ((rd_T39 t394 x11_4).f0)) ∧ w'.cell? ⟨(ad414.add ((x11_4).toNat * 2)).block, (ad414.add ((x11_4).toNat * 2)).off + 1, none⟩ = some (.slice A415_1 ((rd_T39 t394 x11_4).f1).length c415_1)) (ds := []) #[false, false, false, false, false, false, false, false, false] (by kernel_rfl) rfl rfl ⟨hx414_0, hx414_1, hx415_0, hx415_1⟩ (fun hHeld => ?_); refine with_tabW roadbooklaw06_TreeAll.tab22 roadbooklaw06_TreeAll.bits22 (fun HT_ HW_ => ?_)
                                    generalize wr.drew = w62 at HO_6 BK391 HB HL414_1 HL415_1 HR414_1 HR415_1 hx414_0 hx414_1 hx415_0 hx415_1 hHeld ⊢
                                    refine pure_ (i := 0) (N := some 98) (v := ?_) (a' := ?_) #[true, false, false, false, false, false, false, false, false] rfl rfl (any_of HT_.out (by kernel_rfl)) (fun _ _ _ h => h) (Or.inl ⟨by rfl, ?_⟩) ?_ ?_
                                    rotate_left
                                    · intro w'
                                      go_simp
                                      with_reducible rfl
                                    rotate_left
                                    · simp only [Act.put, List.setIfInBounds_toArray, List.set_cons_zero, List.set_cons_succ, i64_w, i32_w]
                                      rfl
                                    refine pure_ (i := 1) (N := some 99) (v := ?_) (a' := ?_) #[true, true, false, false, false, false, false, false, false] rfl rfl (any_of HT_.out (by kernel_rfl)) (fun _ _ _ h => h) (Or.inl ⟨by rfl, ?_⟩) ?_ ?_
                                    rotate_left
                                    · intro w'
                                      go_simp
                                      with_reducible rfl
                                    rotate_left
                                    · simp only [Act.put, List.setIfInBounds_toArray, List.set_cons_zero, List.set_cons_succ, i64_w, i32_w]
                                      rfl
                                    refine pure_ (i := 2) (N := some 100) (v := ?_) (a' := ?_) #[true, true, true, false, false, false, false, false, false] rfl rfl (any_of HT_.out (by kernel_rfl)) (fun _ _ _ h => h) (Or.inl ⟨by rfl, ?_⟩) ?_ ?_
                                    rotate_left
                                    · intro w'
                                      go_simp
                                      with_reducible rfl
                                    rotate_left
                                    · simp only [Act.put, List.setIfInBounds_toArray, List.set_cons_zero, List.set_cons_succ, i64_w, i32_w]
                                      rfl
                                    refine pure_ (i := 4) (N := some 102) (v := ?_) (a' := ?_) #[true, true, true, false, true, false, false, false, false] rfl rfl (any_of HT_.out (by kernel_rfl)) (fun _ _ _ h => h) (Or.inl ⟨by rfl, ?_⟩) ?_ ?_
                                    rotate_left
                                    · intro w'
                                      go_simp
                                      with_reducible rfl
                                    rotate_left
                                    · simp only [Act.put, List.setIfInBounds_toArray, List.set_cons_zero, List.set_cons_succ, i64_w, i32_w]
                                      rfl
                                    refine pure_ (i := 5) (N := some 103) (v := ?_) (a' := ?_) #[true, true, true, false, true, true, false, false, false] rfl rfl (any_of HT_.out (by kernel_rfl)) (fun _ _ _ h => h) (Or.inl ⟨by rfl, ?_⟩) ?_ ?_
                                    rotate_left
                                    · intro w'
                                      go_simp
                                      with_reducible rfl
                                    rotate_left
                                    · simp only [Act.put, List.setIfInBounds_toArray, List.set_cons_zero, List.set_cons_succ, i64_w, i32_w]
                                      rfl
                                    refine pure_ (i := 6) (N := some 104) (v := ?_) (a' := ?_) #[true, true, true, false, true, true, true, false, false] rfl rfl (any_of HT_.out (by kernel_rfl)) (fun _ _ _ h => h) (Or.inl ⟨by rfl, ?_⟩) ?_ ?_
                                    rotate_left
                                    · intro w'
                                      go_simp
                                      with_reducible rfl
                                    rotate_left
                                    · simp only [Act.put, List.setIfInBounds_toArray, List.set_cons_zero, List.set_cons_succ, i64_w, i32_w]
                                      rfl
                                    refine take_ (i := 3) (N := some 101) (v := ?_) (a' := ?_) #[true, true, true, true, true, true, true, false, false] rfl rfl (take_ofW HT_.out HW_.out (by kernel_rfl)) (fun _ _ _ h => h) (Or.inl ⟨by rfl, ?_⟩) hHeld ?_ ?_
                                    rotate_left
                                    · rintro w' ⟨s0, s1, s2, s3⟩
                                      go_simp
                                      with_reducible rfl
                                    rotate_left
                                    · simp only [Act.put, List.setIfInBounds_toArray, List.set_cons_zero, List.set_cons_succ, i64_w, i32_w]
                                      rfl
                                    refine take_ (i := 7) (N := some 105) (v := ?_) (a' := ?_) #[true, true, true, true, true, true, true, true, false] rfl rfl (take_ofW HT_.out HW_.out (by kernel_rfl)) (fun _ _ _ h => h) (Or.inl ⟨by rfl, ?_⟩) hHeld ?_ ?_
                                    rotate_left
                                    · rintro w' ⟨s0, s1, s2, s3⟩
                                      go_simp
                                      with_reducible rfl
                                    rotate_left
                                    · simp only [Act.put, List.setIfInBounds_toArray, List.set_cons_zero, List.set_cons_succ, i64_w, i32_w]
                                      rfl
                                    refine one_ (i := 8) (N := some 106) #[true, true, true, true, true, true, true, true, true] rfl rfl (one_of HT_.out (by kernel_rfl)) (by decide) (fun K hK => ?_)
                                    refine goes_ Try.func39 (by kernel_rfl) rfl #[.agg #[.int .i64 ((rd_T39 t394 x10_3).f0), .slice A414_1 ((rd_T39 t394 x10_3).f1).length c414_1], .agg #[.int .i64 ((rd_T39 t394 x11_4).f0), .slice A415_1 ((rd_T39 t394 x11_4).f1).length c415_1]] (by rfl) rfl rfl (by (try simp only [List.map_toArray, List.map_cons, List.map_nil]); first | done | rfl | (simp only [List.length_drop, List.length_take]; rfl)) ?_
                                    with_reducible refine (tree_Same.calls k4 ((rd_T39 t394 x10_3).f0) _ _ ((rd_T39 t394 x10_3).f1) ((rd_T39 t394 x11_4).f0) _ _ ((rd_T39 t394 x11_4).f1) false _ ?side1 ?side2 ?side3 ?side4 A60.out).mono ?_
                                    (case side1 => repeat (first | exact (by repeat (first | (with_reducible exact HR414_1.out) | (with_reducible refine Kd.C_alloc ?_ _) | (with_reducible refine Kd.C_drewN ?_ _) | (with_reducible refine Kd.C_drew ?_) | exact HR414_1.out | exact Kd.F_now (Kd.V_at HL414_1.out).2.2)) | (with_reducible refine Kd.C_alloc ?_ _) | (with_reducible refine Kd.C_drewN ?_ _) | (with_reducible refine Kd.C_drew ?_)))
                                    (case side2 => exact HC414_1.out)
                                    (case side3 => repeat (first | exact (by repeat (first | (with_reducible exact HR415_1.out) | (with_reducible refine Kd.C_alloc ?_ _) | (with_reducible refine Kd.C_drewN ?_ _) | (with_reducible refine Kd.C_drew ?_) | exact HR415_1.out | exact Kd.F_now (Kd.V_at HL415_1.out).2.2)) | (with_reducible refine Kd.C_alloc ?_ _) | (with_reducible refine Kd.C_drewN ?_ _) | (with_reducible refine Kd.C_drew ?_)))
                                    (case side4 => exact HC415_1.out)
                                    rintro e w63 ⟨rfl, hb⟩
                                    have HS0_ := (hb.cell (World.block_lt_of_cell? _ _ (hHeld.1))).trans (hHeld.1)
                                    have HS1_ := (hb.cell (World.block_lt_of_cell? _ _ (hHeld.2.1))).trans (hHeld.2.1)
                                    have HS2_ := (hb.cell (World.block_lt_of_cell? _ _ (hHeld.2.2.1))).trans (hHeld.2.2.1)
                                    have HS3_ := (hb.cell (World.block_lt_of_cell? _ _ (hHeld.2.2.2))).trans (hHeld.2.2.2)
                                    refine ⟨_, rfl, ?_⟩
                                    have n0_ := Aside0.mk (Kd.N_below (by (with_reducible repeat (first | apply Kd.N_alloc | apply Kd.N_drewN | apply Kd.N_drew)); exact HO_6.out) hb)
                                    have n1_ := Aside0.mk (Kd.V_below (by (with_reducible repeat (first | apply Kd.V_alloc | apply Kd.V_drewN | apply Kd.V_drew)); exact HL414_1.out) hb)
                                    have n2_ := Aside0.mk (Kd.V_below (by (with_reducible repeat (first | apply Kd.V_alloc | apply Kd.V_drewN | apply Kd.V_drew)); exact HL415_1.out) hb)
                                    have n3_ := Aside0.mk (blk_below (g := gb391) (o := .cells #[.int .i64 a1_0, .slice A1_1 l1_1.length c1_1] 39 (0, 0)) (by (with_reducible repeat (first | refine blk_drewN ?_ _ | refine blk_drew ?_ | refine blk_alloc ?_ _)); exact BK391.out) hb)
                                    have n4_ := Aside0.mk (Kd.C_below (by repeat (first | (with_reducible exact HR414_1.out) | (with_reducible refine Kd.C_alloc ?_ _) | (with_reducible refine Kd.C_drewN ?_ _) | (with_reducible refine Kd.C_drew ?_) | exact HR414_1.out | exact Kd.F_now (Kd.V_at HL414_1.out).2.2)) hb)
                                    have n5_ := Aside0.mk (Kd.C_below (by repeat (first | (with_reducible exact HR415_1.out) | (with_reducible refine Kd.C_alloc ?_ _) | (with_reducible refine Kd.C_drewN ?_ _) | (with_reducible refine Kd.C_drew ?_) | exact HR415_1.out | exact Kd.F_now (Kd.V_at HL415_1.out).2.2)) hb)
                                    have n6_ := Aside0.mk (below_step (by repeat (first | (with_reducible first | exact HB.out | apply below_alloc | apply pw_below_drewN | apply below_drew1 | refine below_set ?_ GE391.out) | exact HB.out)) hb)
                                    clear HO_6
                                    clear HL414_1
                                    clear HL415_1
                                    clear BK391
                                    clear HR414_1
                                    clear HR415_1
                                    clear HB
                                    have HO_6 := n0_
                                    have HL414_1 := n1_
                                    have HL415_1 := n2_
                                    have BK391 := n3_
                                    have HR414_1 := n4_
                                    have HR415_1 := n5_
                                    have HB := n6_
                                    clear n0_ n1_ n2_ n3_ n4_ n5_ n6_
                                    (try clear hb)
                                    (try clear hb2)
                                    (try clear hk)
                                    (try clear hi)
                                    refine hK.out _ _ ⟨HS0_, HS1_, HS2_, HS3_⟩ (fun hHeld => ?_)
                                    clear hK K
                                    refine norm_ (a' := ?_) ?_ ?_
                                    rotate_left
                                    · show Act.put _ (some 106) _ = _
                                      simp only [Act.put, List.setIfInBounds_toArray, List.set_cons_zero, List.set_cons_succ, i64_w, i32_w]
                                      rfl
                                    refine done_ (done_of HT_.out (by kernel_rfl)) ?_
                                    try go_wp2
                                    go_roundg k4
                                    case measure => have := HJ3.out; have := HK2.out; have := HK3.out; have := HK4.out; omega
                                    case rel => exact ⟨(wrap64 (x11_4 + 1)), (by first | rfl | (simp; done) | (simp [*]; done)), H', ⟨by have := HJ3.out; have := HK2.out; have := HK3.out; have := HK4.out; omega⟩, ⟨by (with_reducible repeat (first | apply Kd.N_alloc | apply Kd.N_drewN | apply Kd.N_drew)); exact HO_6.out⟩, ⟨by (with_reducible repeat (first | refine blk_drewN ?_ _ | refine blk_drew ?_ | refine blk_alloc ?_ _)); exact BK391.out⟩, ⟨by repeat (first | (with_reducible first | exact HB.out | apply below_alloc | apply pw_below_drewN | apply below_drew1 | refine below_set ?_ GE391.out) | exact HB.out)⟩⟩
                                · rw [if_neg c59] at H
                                  exact absurd H (by simp)
                              · rw [if_neg c58] at H
                                exact absurd H (by simp)
                            · rw [if_neg c57] at H
                              exact absurd H (by simp)
                          · rw [if_neg c56] at H
                            exact absurd H (by simp)
                        · rw [if_neg c55] at H
                          have c55b0 : decide (x11_4 < x10_3) = false := decide_eq_false c55
                          clear c55
                          have H' := Aside0.mk H
                          clear H
                          go_wp2
                          go_roundg k4
                          case measure => have := HJ3.out; have := HK2.out; have := HK3.out; have := HK4.out; omega
                          case rel => exact ⟨(wrap64 (x10_3 + 1)), (by first | rfl | (simp; done) | (simp [*]; done)), H', ⟨by have := HJ3.out; have := HK2.out; have := HK3.out; have := HK4.out; omega⟩, ⟨by (with_reducible repeat (first | apply Kd.N_alloc | apply Kd.N_drewN | apply Kd.N_drew)); exact HO_6.out⟩, ⟨by (with_reducible repeat (first | refine blk_drewN ?_ _ | refine blk_drew ?_ | refine blk_alloc ?_ _)); exact BK391.out⟩, ⟨by repeat (first | (with_reducible first | exact HB.out | apply below_alloc | apply pw_below_drewN | apply below_drew1 | refine below_set ?_ GE391.out) | exact HB.out)⟩⟩
                  · rw [if_neg c54] at H
                    have c54b0 : decide (x10_3 < (t394.length : Int)) = false := decide_eq_false c54
                    clear c54
                    obtain ⟨y409, hy409⟩ : ∃ y_ : List Int, y_ = (([0, 1, 2, 12, 120] : List Int)) := ⟨_, rfl⟩
                    replace H : (if 0 ≤ (wrap64 ((wrap64 ((wrap64 ((Int.tmod a0 2) + (Int.tmod (wrap64 (Int.tdiv a0 2)) 2))) + (Int.tmod (wrap64 (Int.tdiv a0 4)) 2))) + (Int.tmod (wrap64 (Int.tdiv a0 8)) 2))) then (if (wrap64 ((wrap64 ((wrap64 ((Int.tmod a0 2) + (Int.tmod (wrap64 (Int.tdiv a0 2)) 2))) + (Int.tmod (wrap64 (Int.tdiv a0 4)) 2))) + (Int.tmod (wrap64 (Int.tdiv a0 8)) 2))) < (y409.length : Int) then (if (t394.length : Int) = (rd y409 (wrap64 ((wrap64 ((wrap64 ((Int.tmod a0 2) + (Int.tmod (wrap64 (Int.tdiv a0 2)) 2))) + (Int.tmod (wrap64 (Int.tdiv a0 4)) 2))) + (Int.tmod (wrap64 (Int.tdiv a0 8)) 2)))) then ((tree_Set.f k3 a1_0 l1_1).bind fun t413 => (if (x7_2 == (t413 == a0)) = true then (some (decide ((x8_2.size : Int) ≥ (t394.length : Int)))) else (none))) else (none)) else (none)) else (none)) = some r := by first | (rw [hy409]; with_reducible exact H) | (have H2_ := (Option.bind_some _ _).symm.trans H; rw [hy409]; with_reducible exact H2_) | (have H2_ := (Option.bind_some _ _).symm.trans H; with_reducible exact H2_) | with_reducible exact H | (rw [hy409]; exact H) | exact H
                    have Ny409 := Aside0.mk hy409
                    clear hy409
                    obtain ⟨ji64, hji64⟩ : ∃ j_ : Int, (wrap64 ((wrap64 ((wrap64 ((Int.tmod a0 2) + (Int.tmod (wrap64 (Int.tdiv a0 2)) 2))) + (Int.tmod (wrap64 (Int.tdiv a0 4)) 2))) + (Int.tmod (wrap64 (Int.tdiv a0 8)) 2))) = j_ := ⟨_, rfl⟩
                    replace H : (if 0 ≤ (ji64) then (if (ji64) < (y409.length : Int) then (if (t394.length : Int) = (rd y409 (ji64)) then ((tree_Set.f k3 a1_0 l1_1).bind fun t413 => (if (x7_2 == (t413 == a0)) = true then (some (decide ((x8_2.size : Int) ≥ (t394.length : Int)))) else (none))) else (none)) else (none)) else (none)) = some r := by first | (rw [hji64] at H; exact H) | (simp only [hji64] at H ⊢; exact H)
                    have hji64w : (IntKind.i64.wrap ((wrap64 ((wrap64 ((Int.tmod a0 2) + (Int.tmod (wrap64 (Int.tdiv a0 2)) 2))) + (Int.tmod (wrap64 (Int.tdiv a0 4)) 2))) + (Int.tmod (wrap64 (Int.tdiv a0 8)) 2))) = ji64 := (i64_w _).trans hji64
                    by_cases c65 : 0 ≤ (ji64)
                    · rw [if_pos c65] at H
                      have c65b0 : decide (0 ≤ (ji64)) = true := decide_eq_true c65
                      clear c65
                      by_cases c66 : (ji64) < (y409.length : Int)
                      · rw [if_pos c66] at H
                        have c66b0 : decide ((ji64) < (y409.length : Int)) = true := decide_eq_true c66
                        clear c66
                        by_cases c67 : (t394.length : Int) = (rd y409 (ji64))
                        · rw [if_pos c67] at H
                          have c67b0 : ((t394.length : Int) == (rd y409 (ji64))) = true := beq_iff_eq.mpr c67
                          have c67b1 : ((t394.length : Int) != (rd y409 (ji64))) = false := bne_eq_false_iff_eq.mpr c67
                          clear c67
                          replace H := Option.bind_eq_some_iff.mp H
                          obtain ⟨t413, A680, H⟩ := H
                          replace H : (if (x7_2 == (t413 == a0)) = true then (some (decide ((x8_2.size : Int) ≥ (t394.length : Int)))) else (none)) = some r := H
                          have A68 := Aside0.mk A680
                          clear A680
                          by_cases c69 : (x7_2 == (t413 == a0)) = true
                          · rw [if_pos c69] at H
                            have c69b0 : (x7_2 == (t413 == a0)) = true := c69
                            (try (have c69b1 : decide (x7_2 = (t413 == a0)) = true := by simpa using c69))
                            (try (have c69b2 : (x7_2 == (t413 == a0)) = true := by simpa using c69))
                            clear c69
                            obtain rfl := Option.some.inj H
                            go_wp2_with (first | ((with_reducible refine gate_dst (N := 107) rfl ?_); (try (refine gate_guard (by rfl) ?_; dsimp only)); refine Kd.R_lit (Kd.int .i64) _ 3 ?hg (N := 107) ?hd (xs := ([0, 1, 2, 12, 120] : List Int)) (inner := [.int .i64 0, .int .i64 1, .int .i64 2, .int .i64 12, .int .i64 120]) (ok := fun _ => True) (okp := fun _ => True) ?hr ?hp (fun _ hk => hk) trivial (Below.refl _ _) (Nat.le_refl _) (by simp) ?_; (case hd => rfl); (case hg => rfl); (case hr => first | (go_simp; done) | (go_simp; rfl)); (case hp => exact (Reps.one (show Kd.M (Kd.int .i64) _ _ _ 0 [.int .i64 0] from rfl) (Reps.one (show Kd.M (Kd.int .i64) _ _ _ 1 [.int .i64 1] from rfl) (Reps.one (show Kd.M (Kd.int .i64) _ _ _ 2 [.int .i64 2] from rfl) (Reps.one (show Kd.M (Kd.int .i64) _ _ _ 12 [.int .i64 12] from rfl) (Reps.one (show Kd.M (Kd.int .i64) _ _ _ 120 [.int .i64 120] from rfl) (Reps.none _ _))))))); intro v410 w70 ho71 hb hg_ hnew_; clear hg_ hnew_; (first | rw [← Ny409.out] at ho71 | (simp only [Int.reduceToNat] at ho71; rw [← Ny409.out] at ho71)); have n0_ := Aside0.mk (Kd.N_elder' (by (with_reducible repeat (first | apply Kd.N_alloc | apply Kd.N_drewN | apply Kd.N_drew)); exact HO_6.out) (Kd.R_base ho71) hb); have n1_ := Aside0.mk (Kd.R_lower ho71 (below_size (by repeat (first | (with_reducible first | exact HB.out | apply below_alloc | apply pw_below_drewN | apply below_drew1 | refine below_set ?_ GE391.out) | exact HB.out)))); have n2_ := Aside0.mk (blk_below (g := gb391) (o := .cells #[.int .i64 a1_0, .slice A1_1 l1_1.length c1_1] 39 (0, 0)) (by (with_reducible repeat (first | refine blk_drewN ?_ _ | refine blk_drew ?_ | refine blk_alloc ?_ _)); exact BK391.out) hb); have n3_ := Aside0.mk (below_step (by repeat (first | (with_reducible first | exact HB.out | apply below_alloc | apply pw_below_drewN | apply below_drew1 | refine below_set ?_ GE391.out) | exact HB.out)) hb); clear HO_6; clear BK391; clear HB; have HO_6 := n0_; have HO411 := n1_; have BK391 := n2_; have HB := n3_; clear n0_ n1_ n2_ n3_; clear hb ho71; obtain ⟨Ao72, co72, eo72⟩ := Kd.R_slice HO411.out; subst eo72; have p412 : 0 ≤ ((ji64) : Int) := of_decide_eq_true (by first | (with_reducible assumption) | assumption); have q412 : (ji64) < (y409.length : Int) := of_decide_eq_true (by first | (with_reducible assumption) | assumption); obtain ⟨ad412, e412, hx412_0⟩ := Kd.at_int (Kd.R_reads' HO411.out).2.2 (ji64) p412 q412; cases e412; replace p412 := eq_true p412; replace q412 := eq_true q412; have hcz73_0 : w70.cell? ⟨gb391, 0, none⟩ = some (.int .i64 a1_0) := (blk_cell BK391.out 0).trans rfl; have hcz73_1 : w70.cell? ⟨gb391, 1, none⟩ = some (.slice A1_1 l1_1.length c1_1) := (blk_cell BK391.out 1).trans rfl; have hfz73_0 := blk_frozen BK391.out 0; have hfz73_1 := blk_frozen BK391.out 1) | (go_at_call 35; (with_reducible refine (tree_Set.calls k3 a1_0 _ _ l1_1 t413 _ ?side1 ?side2 A68.out).mono ?_); (case side1 => repeat (first | exact (Kd.C_below HR1_1.out HB.out) | (with_reducible refine Kd.C_alloc ?_ _) | (with_reducible refine Kd.C_drewN ?_ _) | (with_reducible refine Kd.C_drew ?_))); (case side2 => exact HC1_1.out); rintro e w74 ⟨rfl, hb⟩; have n0_ := Aside0.mk (Kd.N_below (by (with_reducible repeat (first | apply Kd.N_alloc | apply Kd.N_drewN | apply Kd.N_drew)); exact HO_6.out) hb); have n1_ := Aside0.mk (Kd.R_below (by (with_reducible repeat (first | apply Kd.R_alloc | apply Kd.R_drewN | apply Kd.R_drew)); exact HO411.out) hb); have n2_ := Aside0.mk (blk_below (g := gb391) (o := .cells #[.int .i64 a1_0, .slice A1_1 l1_1.length c1_1] 39 (0, 0)) (by (with_reducible repeat (first | refine blk_drewN ?_ _ | refine blk_drew ?_ | refine blk_alloc ?_ _)); exact BK391.out) hb); have n3_ := Aside0.mk (below_step (by repeat (first | (with_reducible first | exact HB.out | apply below_alloc | apply pw_below_drewN | apply below_drew1 | refine below_set ?_ GE391.out) | exact HB.out)) hb); clear HO_6; clear HO411; clear BK391; clear HB; have HO_6 := n0_; have HO411 := n1_; have BK391 := n2_; have HB := n3_; clear n0_ n1_ n2_ n3_; (try clear hb); (try clear hb2); (try clear hk); (try clear hi)))
                            go_ret
                            exact ⟨by first | rfl | (simp [errW_none, errW_some] <;> rfl) | (simp only [← hji64]; first | rfl | (simp [errW_none, errW_some] <;> rfl)) | (simp [*, errW_none, errW_some] <;> rfl) | (clear HB; simp only [aside0_iff] at *; simp_all; done), by repeat (first | (with_reducible first | exact HB.out | apply below_alloc | apply pw_below_drewN | apply below_drew1 | refine below_set ?_ GE391.out) | exact HB.out)⟩
                          · rw [if_neg c69] at H
                            exact absurd H (by simp)
                        · rw [if_neg c67] at H
                          exact absurd H (by simp)
                      · rw [if_neg c66] at H
                        exact absurd H (by simp)
                    · rw [if_neg c65] at H
                      exact absurd H (by simp)

end Go.Proofs.Ytdegbnjnbpjdfaa.T
