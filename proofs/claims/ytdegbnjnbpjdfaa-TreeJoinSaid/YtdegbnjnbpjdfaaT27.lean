/- Go functions of this claim as Lean functions, and that each call comes to what its Lean function says; written for this claim by a program of this session (mkprint.py, over the kit's printer). Conditions: those in each theorem. -/
import Derived.Test.YtdegbnjnbpjdfaaT0
import Derived.Test.YtdegbnjnbpjdfaaT2
import Derived.Test.YtdegbnjnbpjdfaaT4
import Derived.Test.YtdegbnjnbpjdfaaT7
import Derived.Test.YtdegbnjnbpjdfaaT10
import Derived.Test.YtdegbnjnbpjdfaaT11
namespace Go.Proofs.Ytdegbnjnbpjdfaa.T
open Go.RowKit Go.Proofs.YtdegbnjnbpjdfaaW.PrintWords Go.Proofs.YtdegbnjnbpjdfaaW.PrintLast Go.Proofs.YtdegbnjnbpjdfaaW.PrintMore
attribute [local go_sem] max2_int min2_int max_two min_two max_three min_three max_four min_four   -- for this text's walks alone
set_option linter.unusedVariables false
set_option linter.unusedSimpArgs false

/-! ### roadbooklaw06_TreeJoin: function 11 -/
mutual
def roadbooklaw06_TreeJoin.j0 : Nat → Bool → Bool → Int → List (S39) → Int → List (S39) → Option (Bool)
  | 0, _, _, _, _, _, _ => none
  | k + 1, x5, x22, x418000, x418001, x419000, x419001 => if x22 = true then (some x5) else ((tree_Set.f k x418000 x418001).bind fun t422 => ((tree_Set.f k x419000 x419001).bind fun t423 => ((tree_Join.f x418000 x418001 x419000 x419001).bind fun bt424 => ((tree_May.f k x418000 x418001).bind fun t429 => (if (t429 != (decide (t422 > 0))) = true then (roadbooklaw06_TreeJoin.j1 k t422 t423 true x418000 x418001 x419000 x419001 bt424.1 bt424.2) else ((tree_May.f k x419000 x419001).bind fun t430 => (roadbooklaw06_TreeJoin.j1 k t422 t423 (t430 != (decide (t423 > 0))) x418000 x418001 x419000 x419001 bt424.1 bt424.2)))))))
def roadbooklaw06_TreeJoin.j1 : Nat → Int → Int → Bool → Int → List (S39) → Int → List (S39) → Int → List (S39) → Option (Bool)
  | 0, _, _, _, _, _, _, _, _, _ => none
  | k + 1, x6, x7, x42, x418000, x418001, x419000, x419001, x429000, x429001 => if x42 = true then (none) else (if x6 > 0 then (if x7 > 0 then (roadbooklaw06_TreeJoin.j2 k x6 x7 ((Go.bits .and .i64 x6 x7) == 0) x418000 x418001 x419000 x419001 x429000 x429001) else (roadbooklaw06_TreeJoin.j2 k x6 x7 false x418000 x418001 x419000 x419001 x429000 x429001)) else (roadbooklaw06_TreeJoin.j2 k x6 x7 false x418000 x418001 x419000 x419001 x429000 x429001))
def roadbooklaw06_TreeJoin.j2 : Nat → Int → Int → Bool → Int → List (S39) → Int → List (S39) → Int → List (S39) → Option (Bool)
  | 0, _, _, _, _, _, _, _, _, _ => none
  | k + 1, x6, x7, x9, x418000, x418001, x419000, x419001, x429000, x429001 => (tree_May.f k x429000 x429001).bind fun t431 => (if (t431 == x9) = true then (if x9 = true then ((tree_Set.f k x429000 x429001).bind fun t432 => (if t432 = (Go.bits .or .i64 x6 x7) then ((tree_Join.f x418000 x418001 x419000 x419001).bind fun bt433 => ((tree_Same.f k x429000 x429001 bt433.1 bt433.2).bind fun t437 => (some t437))) else (none))) else ((tree_Join.f x418000 x418001 x419000 x419001).bind fun bt438 => ((tree_Same.f k x429000 x429001 bt438.1 bt438.2).bind fun t442 => (some t442)))) else (none))
end
def roadbooklaw06_TreeJoin.f (k : Nat) (a0_0 : Int) (l0_1 : List (S39)) (a1_0 : Int) (l1_1 : List (S39)) : Option (Bool) := (roadbooklaw06_awake.f k).bind fun t419 => (if t419 = true then ((roadbookref06_Size.f k a0_0 l0_1 100).bind fun t420 => (if t420 > 100 then (roadbooklaw06_TreeJoin.j0 k t419 true a0_0 l0_1 a1_0 l1_1) else ((roadbookref06_Size.f k a1_0 l1_1 100).bind fun t421 => (roadbooklaw06_TreeJoin.j0 k t419 (decide (t421 > 100)) a0_0 l0_1 a1_0 l1_1)))) else (roadbooklaw06_TreeJoin.j0 k t419 true a0_0 l0_1 a1_0 l1_1))
theorem roadbooklaw06_TreeJoin.mono_l : ∀ k, (∀ y0 y1 y2 y3 y4 y5, LeO (roadbooklaw06_TreeJoin.j0 k y0 y1 y2 y3 y4 y5) (roadbooklaw06_TreeJoin.j0 (k + 1) y0 y1 y2 y3 y4 y5)) ∧ (∀ y0 y1 y2 y3 y4 y5 y6 y7 y8, LeO (roadbooklaw06_TreeJoin.j1 k y0 y1 y2 y3 y4 y5 y6 y7 y8) (roadbooklaw06_TreeJoin.j1 (k + 1) y0 y1 y2 y3 y4 y5 y6 y7 y8)) ∧ (∀ y0 y1 y2 y3 y4 y5 y6 y7 y8, LeO (roadbooklaw06_TreeJoin.j2 k y0 y1 y2 y3 y4 y5 y6 y7 y8) (roadbooklaw06_TreeJoin.j2 (k + 1) y0 y1 y2 y3 y4 y5 y6 y7 y8))
  | 0 => ⟨fun _ _ _ _ _ _ r h => by simp [roadbooklaw06_TreeJoin.j0] at h, fun _ _ _ _ _ _ _ _ _ r h => by simp [roadbooklaw06_TreeJoin.j1] at h, fun _ _ _ _ _ _ _ _ _ r h => by simp [roadbooklaw06_TreeJoin.j2] at h⟩
  | k + 1 => by
    obtain ⟨ih0, ih1, ih2⟩ := roadbooklaw06_TreeJoin.mono_l k
    refine ⟨?_, ?_, ?_⟩
    · intro y0 y1 y2 y3 y4 y5
      unfold roadbooklaw06_TreeJoin.j0
      repeat' first
      | (with_reducible exact ih0 _ _ _ _ _ _)
      | (with_reducible exact ih1 _ _ _ _ _ _ _ _ _)
      | (with_reducible exact ih2 _ _ _ _ _ _ _ _ _)
      | (with_reducible exact roadbooklaw06_awake.mono _)
      | (with_reducible exact roadbookref06_Size.mono _ _ _ _)
      | (with_reducible exact tree_May.mono _ _ _)
      | (with_reducible exact tree_Same.mono _ _ _ _ _)
      | (with_reducible exact tree_Set.mono _ _ _)
      | (with_reducible exact LeO.refl _)
      | (with_reducible exact LeO.none _)
      | (with_reducible refine LeO.ite ?_ ?_)
      | (with_reducible refine LeO.bind ?_ (fun _ => ?_))
      | exact ih0 _ _ _ _ _ _
      | exact ih1 _ _ _ _ _ _ _ _ _
      | exact ih2 _ _ _ _ _ _ _ _ _
      | exact roadbooklaw06_awake.mono _
      | exact roadbookref06_Size.mono _ _ _ _
      | exact tree_May.mono _ _ _
      | exact tree_Same.mono _ _ _ _ _
      | exact tree_Set.mono _ _ _
      | exact LeO.none _
      | refine LeO.ite ?_ ?_
      | refine LeO.bind ?_ (fun _ => ?_)
    · intro y0 y1 y2 y3 y4 y5 y6 y7 y8
      unfold roadbooklaw06_TreeJoin.j1
      repeat' first
      | (with_reducible exact ih0 _ _ _ _ _ _)
      | (with_reducible exact ih1 _ _ _ _ _ _ _ _ _)
      | (with_reducible exact ih2 _ _ _ _ _ _ _ _ _)
      | (with_reducible exact roadbooklaw06_awake.mono _)
      | (with_reducible exact roadbookref06_Size.mono _ _ _ _)
      | (with_reducible exact tree_May.mono _ _ _)
      | (with_reducible exact tree_Same.mono _ _ _ _ _)
      | (with_reducible exact tree_Set.mono _ _ _)
      | (with_reducible exact LeO.refl _)
      | (with_reducible exact LeO.none _)
      | (with_reducible refine LeO.ite ?_ ?_)
      | (with_reducible refine LeO.bind ?_ (fun _ => ?_))
      | exact ih0 _ _ _ _ _ _
      | exact ih1 _ _ _ _ _ _ _ _ _
      | exact ih2 _ _ _ _ _ _ _ _ _
      | exact roadbooklaw06_awake.mono _
      | exact roadbookref06_Size.mono _ _ _ _
      | exact tree_May.mono _ _ _
      | exact tree_Same.mono _ _ _ _ _
      | exact tree_Set.mono _ _ _
      | exact LeO.none _
      | refine LeO.ite ?_ ?_
      | refine LeO.bind ?_ (fun _ => ?_)
    · intro y0 y1 y2 y3 y4 y5 y6 y7 y8
      unfold roadbooklaw06_TreeJoin.j2
      repeat' first
      | (with_reducible exact ih0 _ _ _ _ _ _)
      | (with_reducible exact ih1 _ _ _ _ _ _ _ _ _)
      | (with_reducible exact ih2 _ _ _ _ _ _ _ _ _)
      | (with_reducible exact roadbooklaw06_awake.mono _)
      | (with_reducible exact roadbookref06_Size.mono _ _ _ _)
      | (with_reducible exact tree_May.mono _ _ _)
      | (with_reducible exact tree_Same.mono _ _ _ _ _)
      | (with_reducible exact tree_Set.mono _ _ _)
      | (with_reducible exact LeO.refl _)
      | (with_reducible exact LeO.none _)
      | (with_reducible refine LeO.ite ?_ ?_)
      | (with_reducible refine LeO.bind ?_ (fun _ => ?_))
      | exact ih0 _ _ _ _ _ _
      | exact ih1 _ _ _ _ _ _ _ _ _
      | exact ih2 _ _ _ _ _ _ _ _ _
      | exact roadbooklaw06_awake.mono _
      | exact roadbookref06_Size.mono _ _ _ _
      | exact tree_May.mono _ _ _
      | exact tree_Same.mono _ _ _ _ _
      | exact tree_Set.mono _ _ _
      | exact LeO.none _
      | refine LeO.ite ?_ ?_
      | refine LeO.bind ?_ (fun _ => ?_)
theorem roadbooklaw06_TreeJoin.mono : ∀ a0 a1 a2 a3 k, LeO (roadbooklaw06_TreeJoin.f k a0 a1 a2 a3) (roadbooklaw06_TreeJoin.f (k + 1) a0 a1 a2 a3) := by
  intro a0 a1 a2 a3 k
  obtain ⟨ih0, ih1, ih2⟩ := roadbooklaw06_TreeJoin.mono_l k
  unfold roadbooklaw06_TreeJoin.f
  repeat' first
      | (with_reducible exact ih0 _ _ _ _ _ _)
      | (with_reducible exact ih1 _ _ _ _ _ _ _ _ _)
      | (with_reducible exact ih2 _ _ _ _ _ _ _ _ _)
      | (with_reducible exact roadbooklaw06_awake.mono _)
      | (with_reducible exact roadbookref06_Size.mono _ _ _ _)
      | (with_reducible exact tree_May.mono _ _ _)
      | (with_reducible exact tree_Same.mono _ _ _ _ _)
      | (with_reducible exact tree_Set.mono _ _ _)
      | (with_reducible exact LeO.refl _)
      | (with_reducible exact LeO.none _)
      | (with_reducible refine LeO.ite ?_ ?_)
      | (with_reducible refine LeO.bind ?_ (fun _ => ?_))
      | exact ih0 _ _ _ _ _ _
      | exact ih1 _ _ _ _ _ _ _ _ _
      | exact ih2 _ _ _ _ _ _ _ _ _
      | exact roadbooklaw06_awake.mono _
      | exact roadbookref06_Size.mono _ _ _ _
      | exact tree_May.mono _ _ _
      | exact tree_Same.mono _ _ _ _ _
      | exact tree_Set.mono _ _ _
      | exact LeO.none _
      | refine LeO.ite ?_ ?_
      | refine LeO.bind ?_ (fun _ => ?_)
def roadbooklaw06_TreeJoin.T10 : Bool × List (List Nat × List Nat) := (true, [([], []), ([0], [0]), ([], []), ([1, 2], [1, 2]), ([3, 1], [3]), ([4], [4]), ([5, 4], [4, 5]), ([6, 4, 4], [4, 6]), ([7], [7]), ([8, 7, 7], [7, 8]), ([7], [7]), ([7], [7]), ([10, 11, 7], [7, 10, 11]), ([9, 12, 7], [7, 9, 12]), ([7, 13, 4], [4, 7, 13]), ([4, 14], [4, 14]), ([15, 9], [15]), ([16], [16]), ([16], [16]), ([16], [16]), ([18, 19, 16, 16], [16, 18, 19]), ([17, 20, 20, 16], [16, 17, 20]), ([16, 21], [16, 21]), ([22, 21, 0, 1, 2, 3, 4, 5, 6, 7, 8, 9, 10, 11, 12, 13, 14, 15, 16, 17, 18, 19, 20, 21, 22], [22])])
def roadbooklaw06_TreeJoin.B10 : List Nat := [0, 1, 0, 7, 15, 31, 63, 127, 255, 511, 255, 255, 3327, 8191, 16383, 32767, 65535, 131071, 131071, 131071, 917503, 2097151, 4194303, 8388607]
theorem roadbooklaw06_TreeJoin.tab10 : rtab .any (opsOf Try.f11 10) = roadbooklaw06_TreeJoin.T10 := by kernel_rfl
theorem roadbooklaw06_TreeJoin.bits10 : waitsOk roadbooklaw06_TreeJoin.T10.2 roadbooklaw06_TreeJoin.B10 = true := by kernel_rfl
set_option maxHeartbeats 8000000 in
set_option maxRecDepth 100000 in
theorem roadbooklaw06_TreeJoin.calls (k : Nat) (a0_0 : Int) (A0_1 : Option Addr) (c0_1 : Nat) (l0_1 : List (S39)) (a1_0 : Int) (A1_1 : Option Addr) (c1_1 : Nat) (l1_1 : List (S39)) (r : Bool) (w : World) (hr0_1 : Kd.C k39 w A0_1 l0_1.length l0_1) (hc0_1 : l0_1.length ≤ c0_1) (hr1_1 : Kd.C k39 w A1_1 l1_1.length l1_1) (hc1_1 : l1_1.length ≤ c1_1) (h : roadbooklaw06_TreeJoin.f k a0_0 l0_1 a1_0 l1_1 = some r) :
    Calls Try.prog 11 #[.agg #[.int .i64 a0_0, .slice A0_1 l0_1.length c0_1], .agg #[.int .i64 a1_0, .slice A1_1 l1_1.length c1_1]] w fun e w' => e = .returned (.bool r) ∧ Below w.heap.size w w' := by
  have hu39 := Try.underlying39
  have HR0_1 := Aside0.mk hr0_1
  have HC0_1 := Aside0.mk hc0_1
  clear hr0_1 hc0_1
  have HR1_1 := Aside0.mk hr1_1
  have HC1_1 := Aside0.mk hc1_1
  clear hr1_1 hc1_1
  have HB := Aside0.mk (Below.refl w.heap.size w)
  have H : ((roadbooklaw06_awake.f k).bind fun t419 => (if t419 = true then ((roadbookref06_Size.f k a0_0 l0_1 100).bind fun t420 => (if t420 > 100 then (roadbooklaw06_TreeJoin.j0 k t419 true a0_0 l0_1 a1_0 l1_1) else ((roadbookref06_Size.f k a1_0 l1_1 100).bind fun t421 => (roadbooklaw06_TreeJoin.j0 k t419 (decide (t421 > 100)) a0_0 l0_1 a1_0 l1_1)))) else (roadbooklaw06_TreeJoin.j0 k t419 true a0_0 l0_1 a1_0 l1_1))) = some r := h
  clear h
  replace H := Option.bind_eq_some_iff.mp H
  obtain ⟨t419, A30, H⟩ := H
  replace H : (if t419 = true then ((roadbookref06_Size.f k a0_0 l0_1 100).bind fun t420 => (if t420 > 100 then (roadbooklaw06_TreeJoin.j0 k t419 true a0_0 l0_1 a1_0 l1_1) else ((roadbookref06_Size.f k a1_0 l1_1 100).bind fun t421 => (roadbooklaw06_TreeJoin.j0 k t419 (decide (t421 > 100)) a0_0 l0_1 a1_0 l1_1)))) else (roadbooklaw06_TreeJoin.j0 k t419 true a0_0 l0_1 a1_0 l1_1)) = some r := H
  have A3 := Aside0.mk A30
  clear A30
  have HC4 := Aside0.mk H
  clear H
  go_enter Try.func11, Try.ntmps11
  go_upto_region 2 with (first | ((with_reducible refine gate_dst (N := 2) rfl ?_); refine box_event ?hg (N := 2) ?hd (cs := #[.int .i64 a0_0, .slice A0_1 l0_1.length c0_1]) (t := 39) ?hr ?_; (case hd => rfl); (case hg => rfl); (case hr => first | (go_simp; done) | (go_simp; rfl)); intro gb417 hg w5 hbox hb; have n0_ := Aside0.mk (below_step (by repeat (first | (with_reducible first | exact HB.out | apply below_alloc | apply pw_below_drewN | apply below_drew1) | exact HB.out)) hb); have n1_ := Aside0.mk (hbox); have n2_ := Aside0.mk ((by rw [hg]; exact (below_size (by repeat (first | (with_reducible first | exact HB.out | apply below_alloc | apply pw_below_drewN | apply below_drew1) | exact HB.out))) : w.heap.size ≤ gb417)); have n3_ := Aside0.mk ((by rw [hg]; exact (below_size (by repeat (first | (with_reducible first | exact HB.out | apply below_alloc | apply pw_below_drewN | apply below_drew1) | exact HB.out))) : w.heap.size ≤ gb417)); clear HB; have HB := n0_; have BK417 := n1_; have GW417 := n2_; have GE417 := n3_; clear n0_ n1_ n2_ n3_; clear hb hbox hg) | ((with_reducible refine gate_dst (N := 3) rfl ?_); refine box_event ?hg (N := 3) ?hd (cs := #[.int .i64 a1_0, .slice A1_1 l1_1.length c1_1]) (t := 39) ?hr ?_; (case hd => rfl); (case hg => rfl); (case hr => first | (go_simp; done) | (go_simp; rfl)); intro gb418 hg w6 hbox hb; have n0_ := Aside0.mk (blk_below (g := gb417) (o := .cells #[.int .i64 a0_0, .slice A0_1 l0_1.length c0_1] 39 (0, 0)) (by (with_reducible repeat (first | refine blk_drewN ?_ _ | refine blk_drew ?_ | refine blk_alloc ?_ _)); exact BK417.out) hb); have n1_ := Aside0.mk (below_step (by repeat (first | (with_reducible first | exact HB.out | apply below_alloc | apply pw_below_drewN | apply below_drew1 | refine below_set ?_ GE417.out) | exact HB.out)) hb); have n2_ := Aside0.mk (hbox); have n3_ := Aside0.mk ((by rw [hg]; exact (below_size (by repeat (first | (with_reducible first | exact HB.out | apply below_alloc | apply pw_below_drewN | apply below_drew1 | refine below_set ?_ GE417.out) | exact HB.out))) : w.heap.size ≤ gb418)); have n4_ := Aside0.mk ((by rw [hg]; exact (below_size (by repeat (first | (with_reducible first | exact HB.out | apply below_alloc | apply pw_below_drewN | apply below_drew1 | refine below_set ?_ GE417.out) | exact HB.out))) : w.heap.size ≤ gb418)); have n5_ := Aside0.mk ((by rw [hg]; exact Nat.ne_of_lt (blk_lt (g := gb417) (o := .cells #[.int .i64 a0_0, .slice A0_1 l0_1.length c0_1] 39 (0, 0)) (by (with_reducible repeat (first | refine blk_drewN ?_ _ | refine blk_drew ?_ | refine blk_alloc ?_ _)); exact BK417.out)) : gb417 ≠ gb418)); have n6_ := Aside0.mk ((by rw [hg]; exact Nat.ne_of_gt (blk_lt (g := gb417) (o := .cells #[.int .i64 a0_0, .slice A0_1 l0_1.length c0_1] 39 (0, 0)) (by (with_reducible repeat (first | refine blk_drewN ?_ _ | refine blk_drew ?_ | refine blk_alloc ?_ _)); exact BK417.out)) : gb418 ≠ gb417)); clear BK417; clear HB; have BK417 := n0_; have HB := n1_; have BK418 := n2_; have GW418 := n3_; have GE418 := n4_; have NB417_418 := n5_; have NB418_417 := n6_; clear n0_ n1_ n2_ n3_ n4_ n5_ n6_; clear hb hbox hg) | ((with_reducible refine gate_callee (f := 29) rfl ?_); refine goesL_ (some 10) rfl rfl Try.func29 (by kernel_rfl) rfl #[] rfl (by (try simp only [List.map_toArray, List.map_cons, List.map_nil]); first | done | rfl | (simp only [List.length_drop, List.length_take]; rfl)) ?_; (with_reducible refine (roadbooklaw06_awake.calls k  t419 _ A3.out).mono ?_); rintro e w7 ⟨rfl, hb⟩; refine ⟨_, rfl, ?_⟩; have n0_ := Aside0.mk (blk_below (g := gb417) (o := .cells #[.int .i64 a0_0, .slice A0_1 l0_1.length c0_1] 39 (0, 0)) (by (with_reducible repeat (first | refine blk_drewN ?_ _ | refine blk_drew ?_ | refine blk_alloc ?_ _)); exact BK417.out) hb); have n1_ := Aside0.mk (blk_below (g := gb418) (o := .cells #[.int .i64 a1_0, .slice A1_1 l1_1.length c1_1] 39 (0, 0)) (by (with_reducible repeat (first | refine blk_drewN ?_ _ | refine blk_drew ?_ | refine blk_alloc ?_ _)); exact BK418.out) hb); have n2_ := Aside0.mk (below_step (by repeat (first | (with_reducible first | exact HB.out | apply below_alloc | apply pw_below_drewN | apply below_drew1 | refine below_set ?_ GE417.out | refine below_set ?_ GE418.out) | exact HB.out)) hb); clear BK417; clear BK418; clear HB; have BK417 := n0_; have BK418 := n1_; have HB := n2_; clear n0_ n1_ n2_; (try clear hb); (try clear hb2); (try clear hk); (try clear hi)))
  (try simp only [Act.put, List.setIfInBounds_toArray, List.set_cons_zero, List.set_cons_succ])
  go_cut [22] (fun v22 wc => ∃ (kq : Nat) (x22_3 : Bool), v22 = .bool x22_3 ∧ Aside0 (roadbooklaw06_TreeJoin.j0 kq t419 x22_3 a0_0 l0_1 a1_0 l1_1 = some r) ∧ Aside0 (kq ≤ k) ∧ Aside0 (wc.heap[gb417]? = some (.cells #[.int .i64 a0_0, (.slice A0_1 l0_1.length c0_1)] 39 (0, 0))) ∧ Aside0 (wc.heap[gb418]? = some (.cells #[.int .i64 a1_0, (.slice A1_1 l1_1.length c1_1)] 39 (0, 0))) ∧ Aside0 (Below w.heap.size w wc))
  case first =>
    have H := HC4.out
    clear HC4
    by_cases c8 : t419 = true
    · subst c8
      have H1 : ((roadbookref06_Size.f k a0_0 l0_1 100).bind fun t420 => (if t420 > 100 then (roadbooklaw06_TreeJoin.j0 k true true a0_0 l0_1 a1_0 l1_1) else ((roadbookref06_Size.f k a1_0 l1_1 100).bind fun t421 => (roadbooklaw06_TreeJoin.j0 k true (decide (t421 > 100)) a0_0 l0_1 a1_0 l1_1)))) = some r := by rw [if_pos rfl] at H; exact H
      clear H
      have H := H1
      clear H1
      replace H := Option.bind_eq_some_iff.mp H
      obtain ⟨t420, A90, H⟩ := H
      replace H : (if t420 > 100 then (roadbooklaw06_TreeJoin.j0 k true true a0_0 l0_1 a1_0 l1_1) else ((roadbookref06_Size.f k a1_0 l1_1 100).bind fun t421 => (roadbooklaw06_TreeJoin.j0 k true (decide (t421 > 100)) a0_0 l0_1 a1_0 l1_1))) = some r := H
      have A9 := Aside0.mk A90
      clear A90
      by_cases c10 : t420 > 100
      · rw [if_pos c10] at H
        have c10b0 : decide (100 < t420) = true := decide_eq_true c10
        clear c10
        (first | rw [c10b0] | (simp only [i64_w, i32_w]; rw [c10b0]) | skip)
        have H' := Aside0.mk H
        clear H
        have hnb11 := NB417_418.out
        have hnc11 := NB418_417.out
        have hcz12_0 : w7.cell? ⟨gb417, 0, none⟩ = some (.int .i64 a0_0) := (blk_cell BK417.out 0).trans rfl
        have hcz12_1 : w7.cell? ⟨gb417, 1, none⟩ = some (.slice A0_1 l0_1.length c0_1) := (blk_cell BK417.out 1).trans rfl
        have hfz12_0 := blk_frozen BK417.out 0
        have hfz12_1 := blk_frozen BK417.out 1
        go_wp2_with (first | (go_at_call 30; (with_reducible refine (roadbookref06_Size.calls k a0_0 _ _ l0_1 100 t420 _ ?side1 ?side2 A9.out).mono ?_); (case side1 => repeat (first | exact (Kd.C_below HR0_1.out HB.out) | (with_reducible refine Kd.C_alloc ?_ _) | (with_reducible refine Kd.C_drewN ?_ _) | (with_reducible refine Kd.C_drew ?_))); (case side2 => exact HC0_1.out); rintro e w13 ⟨rfl, hb⟩; have n0_ := Aside0.mk (blk_below (g := gb417) (o := .cells #[.int .i64 a0_0, .slice A0_1 l0_1.length c0_1] 39 (0, 0)) (by (with_reducible repeat (first | refine blk_drewN ?_ _ | refine blk_drew ?_ | refine blk_alloc ?_ _)); exact BK417.out) hb); have n1_ := Aside0.mk (blk_below (g := gb418) (o := .cells #[.int .i64 a1_0, .slice A1_1 l1_1.length c1_1] 39 (0, 0)) (by (with_reducible repeat (first | refine blk_drewN ?_ _ | refine blk_drew ?_ | refine blk_alloc ?_ _)); exact BK418.out) hb); have n2_ := Aside0.mk (below_step (by repeat (first | (with_reducible first | exact HB.out | apply below_alloc | apply pw_below_drewN | apply below_drew1 | refine below_set ?_ GE417.out | refine below_set ?_ GE418.out) | exact HB.out)) hb); clear BK417; clear BK418; clear HB; have BK417 := n0_; have BK418 := n1_; have HB := n2_; clear n0_ n1_ n2_; (try clear hb); (try clear hb2); (try clear hk); (try clear hi)))
        go_meet
        case rel => exact ⟨_, (true), (by first | rfl | (simp; done) | (simp [*]; done)), H', ⟨by first | omega | exact Nat.le_refl _⟩, ⟨by (with_reducible repeat (first | refine blk_drewN ?_ _ | refine blk_drew ?_ | refine blk_alloc ?_ _)); exact BK417.out⟩, ⟨by (with_reducible repeat (first | refine blk_drewN ?_ _ | refine blk_drew ?_ | refine blk_alloc ?_ _)); exact BK418.out⟩, ⟨by repeat (first | (with_reducible first | exact HB.out | apply below_alloc | apply pw_below_drewN | apply below_drew1 | refine below_set ?_ GE417.out | refine below_set ?_ GE418.out) | exact HB.out)⟩⟩
      · rw [if_neg c10] at H
        have c10b0 : decide (100 < t420) = false := decide_eq_false c10
        clear c10
        (first | rw [c10b0] | (simp only [i64_w, i32_w]; rw [c10b0]) | skip)
        replace H := Option.bind_eq_some_iff.mp H
        obtain ⟨t421, A140, H⟩ := H
        replace H : (roadbooklaw06_TreeJoin.j0 k true (decide (t421 > 100)) a0_0 l0_1 a1_0 l1_1) = some r := H
        have A14 := Aside0.mk A140
        clear A140
        have H' := Aside0.mk H
        clear H
        have hnb15 := NB417_418.out
        have hnc15 := NB418_417.out
        have hcz16_0 : w7.cell? ⟨gb417, 0, none⟩ = some (.int .i64 a0_0) := (blk_cell BK417.out 0).trans rfl
        have hcz16_1 : w7.cell? ⟨gb417, 1, none⟩ = some (.slice A0_1 l0_1.length c0_1) := (blk_cell BK417.out 1).trans rfl
        have hfz16_0 := blk_frozen BK417.out 0
        have hfz16_1 := blk_frozen BK417.out 1
        go_wp2_with (first | (go_at_call 30; (with_reducible refine (roadbookref06_Size.calls k a0_0 _ _ l0_1 100 t420 _ ?side1 ?side2 A9.out).mono ?_); (case side1 => repeat (first | exact (Kd.C_below HR0_1.out HB.out) | (with_reducible refine Kd.C_alloc ?_ _) | (with_reducible refine Kd.C_drewN ?_ _) | (with_reducible refine Kd.C_drew ?_))); (case side2 => exact HC0_1.out); rintro e w17 ⟨rfl, hb⟩; have n0_ := Aside0.mk (blk_below (g := gb417) (o := .cells #[.int .i64 a0_0, .slice A0_1 l0_1.length c0_1] 39 (0, 0)) (by (with_reducible repeat (first | refine blk_drewN ?_ _ | refine blk_drew ?_ | refine blk_alloc ?_ _)); exact BK417.out) hb); have n1_ := Aside0.mk (blk_below (g := gb418) (o := .cells #[.int .i64 a1_0, .slice A1_1 l1_1.length c1_1] 39 (0, 0)) (by (with_reducible repeat (first | refine blk_drewN ?_ _ | refine blk_drew ?_ | refine blk_alloc ?_ _)); exact BK418.out) hb); have n2_ := Aside0.mk (below_step (by repeat (first | (with_reducible first | exact HB.out | apply below_alloc | apply pw_below_drewN | apply below_drew1 | refine below_set ?_ GE417.out | refine below_set ?_ GE418.out) | exact HB.out)) hb); clear BK417; clear BK418; clear HB; have BK417 := n0_; have BK418 := n1_; have HB := n2_; clear n0_ n1_ n2_; (try clear hb); (try clear hb2); (try clear hk); (try clear hi); have hcz18_0 : w17.cell? ⟨gb418, 0, none⟩ = some (.int .i64 a1_0) := (blk_cell BK418.out 0).trans rfl; have hcz18_1 : w17.cell? ⟨gb418, 1, none⟩ = some (.slice A1_1 l1_1.length c1_1) := (blk_cell BK418.out 1).trans rfl; have hfz18_0 := blk_frozen BK418.out 0; have hfz18_1 := blk_frozen BK418.out 1) | (go_at_call 30; (with_reducible refine (roadbookref06_Size.calls k a1_0 _ _ l1_1 100 t421 _ ?side1 ?side2 A14.out).mono ?_); (case side1 => repeat (first | exact (Kd.C_below HR1_1.out HB.out) | (with_reducible refine Kd.C_alloc ?_ _) | (with_reducible refine Kd.C_drewN ?_ _) | (with_reducible refine Kd.C_drew ?_))); (case side2 => exact HC1_1.out); rintro e w19 ⟨rfl, hb⟩; have n0_ := Aside0.mk (blk_below (g := gb417) (o := .cells #[.int .i64 a0_0, .slice A0_1 l0_1.length c0_1] 39 (0, 0)) (by (with_reducible repeat (first | refine blk_drewN ?_ _ | refine blk_drew ?_ | refine blk_alloc ?_ _)); exact BK417.out) hb); have n1_ := Aside0.mk (blk_below (g := gb418) (o := .cells #[.int .i64 a1_0, .slice A1_1 l1_1.length c1_1] 39 (0, 0)) (by (with_reducible repeat (first | refine blk_drewN ?_ _ | refine blk_drew ?_ | refine blk_alloc ?_ _)); exact BK418.out) hb); have n2_ := Aside0.mk (below_step (by repeat (first | (with_reducible first | exact HB.out | apply below_alloc | apply pw_below_drewN | apply below_drew1 | refine below_set ?_ GE417.out | refine below_set ?_ GE418.out) | exact HB.out)) hb); clear BK417; clear BK418; clear HB; have BK417 := n0_; have BK418 := n1_; have HB := n2_; clear n0_ n1_ n2_; (try clear hb); (try clear hb2); (try clear hk); (try clear hi)))
        go_meet
        case rel => exact ⟨_, (decide (t421 > 100)), (by first | rfl | (simp; done) | (simp [*]; done)), H', ⟨by first | omega | exact Nat.le_refl _⟩, ⟨by (with_reducible repeat (first | refine blk_drewN ?_ _ | refine blk_drew ?_ | refine blk_alloc ?_ _)); exact BK417.out⟩, ⟨by (with_reducible repeat (first | refine blk_drewN ?_ _ | refine blk_drew ?_ | refine blk_alloc ?_ _)); exact BK418.out⟩, ⟨by repeat (first | (with_reducible first | exact HB.out | apply below_alloc | apply pw_below_drewN | apply below_drew1 | refine below_set ?_ GE417.out | refine below_set ?_ GE418.out) | exact HB.out)⟩⟩
    · replace c8 := Bool.eq_false_iff.mpr c8
      subst c8
      have H1 : (roadbooklaw06_TreeJoin.j0 k false true a0_0 l0_1 a1_0 l1_1) = some r := by rw [if_neg (show ¬ (false = true) by decide)] at H; exact H
      clear H
      have H := H1
      clear H1
      have H' := Aside0.mk H
      clear H
      go_wp2
      go_meet
      case rel => exact ⟨_, (true), (by first | rfl | (simp; done) | (simp [*]; done)), H', ⟨by first | omega | exact Nat.le_refl _⟩, ⟨by (with_reducible repeat (first | refine blk_drewN ?_ _ | refine blk_drew ?_ | refine blk_alloc ?_ _)); exact BK417.out⟩, ⟨by (with_reducible repeat (first | refine blk_drewN ?_ _ | refine blk_drew ?_ | refine blk_alloc ?_ _)); exact BK418.out⟩, ⟨by repeat (first | (with_reducible first | exact HB.out | apply below_alloc | apply pw_below_drewN | apply below_drew1 | refine below_set ?_ GE417.out | refine below_set ?_ GE418.out) | exact HB.out)⟩⟩
  case rest =>
    clear HC4
    try clear c1
    try clear c2
    try clear p2
    try clear c8
    try clear c10
    try clear c10b0
    try clear c11
    try clear c15
    try clear hcz12_0
    try clear hcz12_1
    try clear hcz16_0
    try clear hcz16_1
    try clear hcz18_0
    try clear hcz18_1
    try clear hfz12_0
    try clear hfz12_1
    try clear hfz16_0
    try clear hfz16_1
    try clear hfz18_0
    try clear hfz18_1
    obtain ⟨kq, x22_3, rfl, HA, HJ3, BK417, BK418, HB⟩ := hcut
    cases kq with
    | zero => exact absurd HA.out (by simp [roadbooklaw06_TreeJoin.j0])
    | succ kj3 =>
      have H := HA.out
      clear HA
      simp only [roadbooklaw06_TreeJoin.j0] at H
      by_cases c20 : x22_3 = true
      · subst c20
        have H1 : (some t419) = some r := by rw [if_pos rfl] at H; exact H
        clear H
        have H := H1
        clear H1
        obtain rfl := Option.some.inj H
        go_wp2
        go_ret
        exact ⟨by first | rfl | (simp [errW_none, errW_some] <;> rfl) | (simp [*, errW_none, errW_some] <;> rfl) | (clear HB; simp only [aside0_iff] at *; simp_all; done), by repeat (first | (with_reducible first | exact HB.out | apply below_alloc | apply pw_below_drewN | apply below_drew1 | refine below_set ?_ GE417.out | refine below_set ?_ GE418.out) | exact HB.out)⟩
      · replace c20 := Bool.eq_false_iff.mpr c20
        subst c20
        have H1 : ((tree_Set.f kj3 a0_0 l0_1).bind fun t422 => ((tree_Set.f kj3 a1_0 l1_1).bind fun t423 => ((tree_Join.f a0_0 l0_1 a1_0 l1_1).bind fun bt424 => ((tree_May.f kj3 a0_0 l0_1).bind fun t429 => (if (t429 != (decide (t422 > 0))) = true then (roadbooklaw06_TreeJoin.j1 kj3 t422 t423 true a0_0 l0_1 a1_0 l1_1 bt424.1 bt424.2) else ((tree_May.f kj3 a1_0 l1_1).bind fun t430 => (roadbooklaw06_TreeJoin.j1 kj3 t422 t423 (t430 != (decide (t423 > 0))) a0_0 l0_1 a1_0 l1_1 bt424.1 bt424.2))))))) = some r := by rw [if_neg (show ¬ (false = true) by decide)] at H; exact H
        clear H
        have H := H1
        clear H1
        replace H := Option.bind_eq_some_iff.mp H
        obtain ⟨t422, A210, H⟩ := H
        replace H : ((tree_Set.f kj3 a1_0 l1_1).bind fun t423 => ((tree_Join.f a0_0 l0_1 a1_0 l1_1).bind fun bt424 => ((tree_May.f kj3 a0_0 l0_1).bind fun t429 => (if (t429 != (decide (t422 > 0))) = true then (roadbooklaw06_TreeJoin.j1 kj3 t422 t423 true a0_0 l0_1 a1_0 l1_1 bt424.1 bt424.2) else ((tree_May.f kj3 a1_0 l1_1).bind fun t430 => (roadbooklaw06_TreeJoin.j1 kj3 t422 t423 (t430 != (decide (t423 > 0))) a0_0 l0_1 a1_0 l1_1 bt424.1 bt424.2)))))) = some r := H
        have A21 := Aside0.mk A210
        clear A210
        replace H := Option.bind_eq_some_iff.mp H
        obtain ⟨t423, A220, H⟩ := H
        replace H : ((tree_Join.f a0_0 l0_1 a1_0 l1_1).bind fun bt424 => ((tree_May.f kj3 a0_0 l0_1).bind fun t429 => (if (t429 != (decide (t422 > 0))) = true then (roadbooklaw06_TreeJoin.j1 kj3 t422 t423 true a0_0 l0_1 a1_0 l1_1 bt424.1 bt424.2) else ((tree_May.f kj3 a1_0 l1_1).bind fun t430 => (roadbooklaw06_TreeJoin.j1 kj3 t422 t423 (t430 != (decide (t423 > 0))) a0_0 l0_1 a1_0 l1_1 bt424.1 bt424.2))))) = some r := H
        have A22 := Aside0.mk A220
        clear A220
        replace H := Option.bind_eq_some_iff.mp H
        obtain ⟨⟨t424, t425⟩, A230, H⟩ := H
        replace H : ((tree_May.f kj3 a0_0 l0_1).bind fun t429 => (if (t429 != (decide (t422 > 0))) = true then (roadbooklaw06_TreeJoin.j1 kj3 t422 t423 true a0_0 l0_1 a1_0 l1_1 t424 t425) else ((tree_May.f kj3 a1_0 l1_1).bind fun t430 => (roadbooklaw06_TreeJoin.j1 kj3 t422 t423 (t430 != (decide (t423 > 0))) a0_0 l0_1 a1_0 l1_1 t424 t425)))) = some r := H
        have A23 := Aside0.mk A230
        clear A230
        have HC24 := Aside0.mk H
        clear H
        have hnb25 := NB417_418.out
        have hnc25 := NB418_417.out
        have hcz26_0 : wc.cell? ⟨gb417, 0, none⟩ = some (.int .i64 a0_0) := (blk_cell BK417.out 0).trans rfl
        have hcz26_1 : wc.cell? ⟨gb417, 1, none⟩ = some (.slice A0_1 l0_1.length c0_1) := (blk_cell BK417.out 1).trans rfl
        have hfz26_0 := blk_frozen BK417.out 0
        have hfz26_1 := blk_frozen BK417.out 1
        go_upto_region 7 with (first | ((with_reducible refine gate_callee (f := 35) rfl ?_); refine goesL_ (some 25) rfl rfl Try.func35 (by kernel_rfl) rfl #[.agg #[.int .i64 a0_0, .slice A0_1 l0_1.length c0_1]] rfl (by (try simp only [List.map_toArray, List.map_cons, List.map_nil]); first | done | rfl | (simp only [List.length_drop, List.length_take]; rfl)) ?_; (with_reducible refine (tree_Set.calls kj3 a0_0 _ _ l0_1 t422 _ ?side1 ?side2 A21.out).mono ?_); (case side1 => repeat (first | exact (Kd.C_below HR0_1.out HB.out) | (with_reducible refine Kd.C_alloc ?_ _) | (with_reducible refine Kd.C_drewN ?_ _) | (with_reducible refine Kd.C_drew ?_))); (case side2 => exact HC0_1.out); rintro e w27 ⟨rfl, hb⟩; refine ⟨_, rfl, ?_⟩; have n0_ := Aside0.mk (blk_below (g := gb417) (o := .cells #[.int .i64 a0_0, .slice A0_1 l0_1.length c0_1] 39 (0, 0)) (by (with_reducible repeat (first | refine blk_drewN ?_ _ | refine blk_drew ?_ | refine blk_alloc ?_ _)); exact BK417.out) hb); have n1_ := Aside0.mk (blk_below (g := gb418) (o := .cells #[.int .i64 a1_0, .slice A1_1 l1_1.length c1_1] 39 (0, 0)) (by (with_reducible repeat (first | refine blk_drewN ?_ _ | refine blk_drew ?_ | refine blk_alloc ?_ _)); exact BK418.out) hb); have n2_ := Aside0.mk (below_step (by repeat (first | (with_reducible first | exact HB.out | apply below_alloc | apply pw_below_drewN | apply below_drew1 | refine below_set ?_ GE417.out | refine below_set ?_ GE418.out) | exact HB.out)) hb); clear BK417; clear BK418; clear HB; have BK417 := n0_; have BK418 := n1_; have HB := n2_; clear n0_ n1_ n2_; (try clear hb); (try clear hb2); (try clear hk); (try clear hi); have hcz28_0 : w27.cell? ⟨gb418, 0, none⟩ = some (.int .i64 a1_0) := (blk_cell BK418.out 0).trans rfl; have hcz28_1 : w27.cell? ⟨gb418, 1, none⟩ = some (.slice A1_1 l1_1.length c1_1) := (blk_cell BK418.out 1).trans rfl; have hfz28_0 := blk_frozen BK418.out 0; have hfz28_1 := blk_frozen BK418.out 1) | ((with_reducible refine gate_callee (f := 35) rfl ?_); refine goesL_ (some 27) rfl rfl Try.func35 (by kernel_rfl) rfl #[.agg #[.int .i64 a1_0, .slice A1_1 l1_1.length c1_1]] rfl (by (try simp only [List.map_toArray, List.map_cons, List.map_nil]); first | done | rfl | (simp only [List.length_drop, List.length_take]; rfl)) ?_; (with_reducible refine (tree_Set.calls kj3 a1_0 _ _ l1_1 t423 _ ?side1 ?side2 A22.out).mono ?_); (case side1 => repeat (first | exact (Kd.C_below HR1_1.out HB.out) | (with_reducible refine Kd.C_alloc ?_ _) | (with_reducible refine Kd.C_drewN ?_ _) | (with_reducible refine Kd.C_drew ?_))); (case side2 => exact HC1_1.out); rintro e w29 ⟨rfl, hb⟩; refine ⟨_, rfl, ?_⟩; have n0_ := Aside0.mk (blk_below (g := gb417) (o := .cells #[.int .i64 a0_0, .slice A0_1 l0_1.length c0_1] 39 (0, 0)) (by (with_reducible repeat (first | refine blk_drewN ?_ _ | refine blk_drew ?_ | refine blk_alloc ?_ _)); exact BK417.out) hb); have n1_ := Aside0.mk (blk_below (g := gb418) (o := .cells #[.int .i64 a1_0, .slice A1_1 l1_1.length c1_1] 39 (0, 0)) (by (with_reducible repeat (first | refine blk_drewN ?_ _ | refine blk_drew ?_ | refine blk_alloc ?_ _)); exact BK418.out) hb); have n2_ := Aside0.mk (below_step (by repeat (first | (with_reducible first | exact HB.out | apply below_alloc | apply pw_below_drewN | apply below_drew1 | refine below_set ?_ GE417.out | refine below_set ?_ GE418.out) | exact HB.out)) hb); clear BK417; clear BK418; clear HB; have BK417 := n0_; have BK418 := n1_; have HB := n2_; clear n0_ n1_ n2_; (try clear hb); (try clear hb2); (try clear hk); (try clear hi); have hcz30_0 : w29.cell? ⟨gb417, 0, none⟩ = some (.int .i64 a0_0) := (blk_cell BK417.out 0).trans rfl; have hcz30_1 : w29.cell? ⟨gb417, 1, none⟩ = some (.slice A0_1 l0_1.length c0_1) := (blk_cell BK417.out 1).trans rfl; have hfz30_0 := blk_frozen BK417.out 0; have hfz30_1 := blk_frozen BK417.out 1; have hcz31_0 : w29.cell? ⟨gb418, 0, none⟩ = some (.int .i64 a1_0) := (blk_cell BK418.out 0).trans rfl; have hcz31_1 : w29.cell? ⟨gb418, 1, none⟩ = some (.slice A1_1 l1_1.length c1_1) := (blk_cell BK418.out 1).trans rfl; have hfz31_0 := blk_frozen BK418.out 0; have hfz31_1 := blk_frozen BK418.out 1) | ((with_reducible refine gate_callee (f := 44) rfl ?_); refine goesL_ (some 30) rfl rfl Try.func44 (by kernel_rfl) rfl #[.agg #[.int .i64 a0_0, .slice A0_1 l0_1.length c0_1], .agg #[.int .i64 a1_0, .slice A1_1 l1_1.length c1_1]] rfl (by (try simp only [List.map_toArray, List.map_cons, List.map_nil]); first | done | rfl | (simp only [List.length_drop, List.length_take]; rfl)) ?_; (with_reducible refine (tree_Join.calls a0_0 (fun k_ => k_ < w.heap.size) _ _ l0_1 a1_0 (fun k_ => k_ < w.heap.size) _ _ l1_1 t424 t425 _ ?side1 ?side2 A23.out).mono ?_); (case side1 => exact Kd.V_mk HC0_1.out (Kd.F_below (Kd.C_F k39_heap HR0_1.out) (by repeat (first | (with_reducible first | exact HB.out | apply below_alloc | apply pw_below_drewN | apply below_drew1 | refine below_set ?_ GE417.out | refine below_set ?_ GE418.out) | exact HB.out)))); (case side2 => exact Kd.V_mk HC1_1.out (Kd.F_below (Kd.C_F k39_heap HR1_1.out) (by repeat (first | (with_reducible first | exact HB.out | apply below_alloc | apply pw_below_drewN | apply below_drew1 | refine below_set ?_ GE417.out | refine below_set ?_ GE418.out) | exact HB.out)))); rintro e w32 ⟨v426, rfl, ho0, hb⟩; refine ⟨_, rfl, ?_⟩; have n0_ := Aside0.mk (Kd.N_lower (Kd.N_mono (ok' := fun k_ => k_ ≠ gb417 ∧ k_ ≠ gb418) ho0 (fun k_ hk_ => ⟨Or.elim hk_ (fun hs_ => Or.elim hs_ (fun hs_ => fun e_ => Nat.not_le.2 hs_ (by rw [e_]; exact GW417.out)) (fun hs_ => fun e_ => Nat.not_le.2 hs_ (by rw [e_]; exact GW417.out))) (fun hn_ => (Kd.freshB (g := gb417) (o := .cells #[.int .i64 a0_0, .slice A0_1 l0_1.length c0_1] 39 (0, 0)) (by (with_reducible repeat (first | refine blk_drewN ?_ _ | refine blk_drew ?_ | refine blk_alloc ?_ _)); exact BK417.out) k_ hn_)), Or.elim hk_ (fun hs_ => Or.elim hs_ (fun hs_ => fun e_ => Nat.not_le.2 hs_ (by rw [e_]; exact GW418.out)) (fun hs_ => fun e_ => Nat.not_le.2 hs_ (by rw [e_]; exact GW418.out))) (fun hn_ => (Kd.freshB (g := gb418) (o := .cells #[.int .i64 a1_0, .slice A1_1 l1_1.length c1_1] 39 (0, 0)) (by (with_reducible repeat (first | refine blk_drewN ?_ _ | refine blk_drew ?_ | refine blk_alloc ?_ _)); exact BK418.out) k_ hn_))⟩)) (below_size (by repeat (first | (with_reducible first | exact HB.out | apply below_alloc | apply pw_below_drewN | apply below_drew1 | refine below_set ?_ GE417.out | refine below_set ?_ GE418.out) | exact HB.out)))); have n1_ := Aside0.mk (blk_below (g := gb417) (o := .cells #[.int .i64 a0_0, .slice A0_1 l0_1.length c0_1] 39 (0, 0)) (by (with_reducible repeat (first | refine blk_drewN ?_ _ | refine blk_drew ?_ | refine blk_alloc ?_ _)); exact BK417.out) hb); have n2_ := Aside0.mk (blk_below (g := gb418) (o := .cells #[.int .i64 a1_0, .slice A1_1 l1_1.length c1_1] 39 (0, 0)) (by (with_reducible repeat (first | refine blk_drewN ?_ _ | refine blk_drew ?_ | refine blk_alloc ?_ _)); exact BK418.out) hb); have n3_ := Aside0.mk (below_step (by repeat (first | (with_reducible first | exact HB.out | apply below_alloc | apply pw_below_drewN | apply below_drew1 | refine below_set ?_ GE417.out | refine below_set ?_ GE418.out) | exact HB.out)) hb); clear BK417; clear BK418; clear HB; have HO427 := n0_; have BK417 := n1_; have BK418 := n2_; have HB := n3_; clear n0_ n1_ n2_ n3_; (try clear hb); (try clear hb2); (try clear hk); (try clear hi); (try clear ho0)) | ((with_reducible refine gate_dst (N := 8) rfl ?_); refine box_event ?hg (N := 8) ?hd (cs := #[.int .i64 0, .slice none 0 0]) (t := 39) ?hr ?_; (case hd => rfl); (case hg => rfl); (case hr => first | (go_simp; done) | (go_simp; rfl)); intro gb428 hg w33 hbox hb; have n0_ := Aside0.mk (Kd.N_below (Kd.N_elderB (by (with_reducible repeat (first | apply Kd.N_alloc | apply Kd.N_drewN | apply Kd.N_drew)); exact HO427.out) gb428 (Nat.le_of_eq hg.symm)) hb); have n1_ := Aside0.mk (blk_below (g := gb417) (o := .cells #[.int .i64 a0_0, .slice A0_1 l0_1.length c0_1] 39 (0, 0)) (by (with_reducible repeat (first | refine blk_drewN ?_ _ | refine blk_drew ?_ | refine blk_alloc ?_ _)); exact BK417.out) hb); have n2_ := Aside0.mk (blk_below (g := gb418) (o := .cells #[.int .i64 a1_0, .slice A1_1 l1_1.length c1_1] 39 (0, 0)) (by (with_reducible repeat (first | refine blk_drewN ?_ _ | refine blk_drew ?_ | refine blk_alloc ?_ _)); exact BK418.out) hb); have n3_ := Aside0.mk (below_step (by repeat (first | (with_reducible first | exact HB.out | apply below_alloc | apply pw_below_drewN | apply below_drew1 | refine below_set ?_ GE417.out | refine below_set ?_ GE418.out) | exact HB.out)) hb); have n4_ := Aside0.mk (hbox); have n5_ := Aside0.mk ((by rw [hg]; exact (below_size (by repeat (first | (with_reducible first | exact HB.out | apply below_alloc | apply pw_below_drewN | apply below_drew1 | refine below_set ?_ GE417.out | refine below_set ?_ GE418.out) | exact HB.out))) : w.heap.size ≤ gb428)); have n6_ := Aside0.mk ((by rw [hg]; exact (below_size (by repeat (first | (with_reducible first | exact HB.out | apply below_alloc | apply pw_below_drewN | apply below_drew1 | refine below_set ?_ GE417.out | refine below_set ?_ GE418.out) | exact HB.out))) : w.heap.size ≤ gb428)); have n7_ := Aside0.mk ((by rw [hg]; exact Nat.ne_of_lt (blk_lt (g := gb417) (o := .cells #[.int .i64 a0_0, .slice A0_1 l0_1.length c0_1] 39 (0, 0)) (by (with_reducible repeat (first | refine blk_drewN ?_ _ | refine blk_drew ?_ | refine blk_alloc ?_ _)); exact BK417.out)) : gb417 ≠ gb428)); have n8_ := Aside0.mk ((by rw [hg]; exact Nat.ne_of_gt (blk_lt (g := gb417) (o := .cells #[.int .i64 a0_0, .slice A0_1 l0_1.length c0_1] 39 (0, 0)) (by (with_reducible repeat (first | refine blk_drewN ?_ _ | refine blk_drew ?_ | refine blk_alloc ?_ _)); exact BK417.out)) : gb428 ≠ gb417)); have n9_ := Aside0.mk ((by rw [hg]; exact Nat.ne_of_lt (blk_lt (g := gb418) (o := .cells #[.int .i64 a1_0, .slice A1_1 l1_1.length c1_1] 39 (0, 0)) (by (with_reducible repeat (first | refine blk_drewN ?_ _ | refine blk_drew ?_ | refine blk_alloc ?_ _)); exact BK418.out)) : gb418 ≠ gb428)); have n10_ := Aside0.mk ((by rw [hg]; exact Nat.ne_of_gt (blk_lt (g := gb418) (o := .cells #[.int .i64 a1_0, .slice A1_1 l1_1.length c1_1] 39 (0, 0)) (by (with_reducible repeat (first | refine blk_drewN ?_ _ | refine blk_drew ?_ | refine blk_alloc ?_ _)); exact BK418.out)) : gb428 ≠ gb418)); clear HO427; clear BK417; clear BK418; clear HB; have HO427 := n0_; have BK417 := n1_; have BK418 := n2_; have HB := n3_; have BK428 := n4_; have GW428 := n5_; have GE428 := n6_; have NB417_428 := n7_; have NB428_417 := n8_; have NB418_428 := n9_; have NB428_418 := n10_; clear n0_ n1_ n2_ n3_ n4_ n5_ n6_ n7_ n8_ n9_ n10_; clear hb hbox hg; have hnb34 := NB428_417.out; have hnc34 := NB417_428.out; have hnb35 := NB428_418.out; have hnc35 := NB418_428.out; have hcz36_0 : w33.cell? ⟨gb428, 0, none⟩ = some (.int .i64 0) := (blk_cell BK428.out 0).trans rfl; have hcz36_1 : w33.cell? ⟨gb428, 1, none⟩ = some (.slice none 0 0) := (blk_cell BK428.out 1).trans rfl; have hfz36_0 := blk_frozen BK428.out 0; have hfz36_1 := blk_frozen BK428.out 1; obtain ⟨Ao37, co37, eo37⟩ := Kd.N_slice HO427.out; subst eo37))
        (try simp only [Act.put, List.setIfInBounds_toArray, List.set_cons_zero, List.set_cons_succ])
        go_cut [42] (fun v42 wc => ∃ (kq : Nat) (x42_23 : Bool), v42 = .bool x42_23 ∧ Aside0 (roadbooklaw06_TreeJoin.j1 kq t422 t423 x42_23 a0_0 l0_1 a1_0 l1_1 t424 t425 = some r) ∧ Aside0 (kq ≤ kj3) ∧ Aside0 (Kd.N k39 39 wc w.heap.size (fun k_ => k_ ≠ gb417 ∧ k_ ≠ gb418 ∧ k_ ≠ gb428) (.slice Ao37 t425.length co37) t425) ∧ Aside0 (wc.heap[gb417]? = some (.cells #[.int .i64 a0_0, (.slice A0_1 l0_1.length c0_1)] 39 (0, 0))) ∧ Aside0 (wc.heap[gb418]? = some (.cells #[.int .i64 a1_0, (.slice A1_1 l1_1.length c1_1)] 39 (0, 0))) ∧ Aside0 (wc.heap[gb428]? = some (.cells #[.int .i64 t424, (.slice Ao37 t425.length co37)] 39 (0, 0))) ∧ Aside0 (Below w.heap.size w wc))
        case first =>
          have H := HC24.out
          clear HC24
          replace H := Option.bind_eq_some_iff.mp H
          obtain ⟨t429, A380, H⟩ := H
          replace H : (if (t429 != (decide (t422 > 0))) = true then (roadbooklaw06_TreeJoin.j1 kj3 t422 t423 true a0_0 l0_1 a1_0 l1_1 t424 t425) else ((tree_May.f kj3 a1_0 l1_1).bind fun t430 => (roadbooklaw06_TreeJoin.j1 kj3 t422 t423 (t430 != (decide (t423 > 0))) a0_0 l0_1 a1_0 l1_1 t424 t425))) = some r := H
          have A38 := Aside0.mk A380
          clear A380
          by_cases c39 : (t429 != (decide (t422 > 0))) = true
          · rw [if_pos c39] at H
            have c39b0 : (t429 != (decide (t422 > 0))) = true := c39
            (try (have c39b1 : decide (t429 = (decide (t422 > 0))) = false := by simpa using c39))
            (try (have c39b2 : (t429 == (decide (t422 > 0))) = false := by simpa using c39))
            (try (have c39b3 : ¬ (t429 = (decide (t422 > 0))) := by simpa using c39))
            clear c39
            (first | rw [c39b0] | (simp only [i64_w, i32_w]; rw [c39b0]) | skip)
            have H' := Aside0.mk H
            clear H
            have hnb40 := NB417_418.out
            have hnc40 := NB418_417.out
            have hnb41 := NB417_428.out
            have hnc41 := NB428_417.out
            have hcz42_0 : w33.cell? ⟨gb417, 0, none⟩ = some (.int .i64 a0_0) := (blk_cell BK417.out 0).trans rfl
            have hcz42_1 : w33.cell? ⟨gb417, 1, none⟩ = some (.slice A0_1 l0_1.length c0_1) := (blk_cell BK417.out 1).trans rfl
            have hfz42_0 := blk_frozen BK417.out 0
            have hfz42_1 := blk_frozen BK417.out 1
            go_wp2_with (first | ((with_reducible refine gate_callee (f := 33) rfl ?_); refine goesL_ (some 32) rfl rfl Try.func33 (by kernel_rfl) rfl #[.agg #[.int .i64 a0_0, .slice A0_1 l0_1.length c0_1]] rfl (by (try simp only [List.map_toArray, List.map_cons, List.map_nil]); first | done | rfl | (simp only [List.length_drop, List.length_take]; rfl)) ?_; (with_reducible refine (tree_May.calls kj3 a0_0 _ _ l0_1 t429 _ ?side1 ?side2 A38.out).mono ?_); (case side1 => exact Kd.C_below HR0_1.out (by repeat (first | (with_reducible first | exact HB.out | apply below_alloc | apply pw_below_drewN | apply below_drew1 | refine below_set ?_ GE417.out | refine below_set ?_ GE418.out | refine below_set ?_ GE428.out) | exact HB.out))); (case side2 => exact HC0_1.out); rintro e w43 ⟨rfl, hb⟩; refine ⟨_, rfl, ?_⟩; have n0_ := Aside0.mk (Kd.N_below (by (with_reducible repeat (first | apply Kd.N_alloc | apply Kd.N_drewN | apply Kd.N_drew)); exact (Kd.N_mono (Kd.N_far (p := ⟨gb428, 1, none⟩) (Kd.N_far (p := ⟨gb428, 0, none⟩) (Kd.N_mono HO427.out (fun k_ hk => (⟨hk, hk.2⟩ : _ ∧ k_ ≠ gb428))) (fun _ hk => hk.2) (.int .i64 t424)) (fun _ hk => hk.2) (.slice Ao37 t425.length co37)) (fun _ h_ => h_.1))) hb); have n1_ := Aside0.mk (blk_below (g := gb417) (o := .cells #[.int .i64 a0_0, .slice A0_1 l0_1.length c0_1] 39 (0, 0)) (by (with_reducible repeat (first | refine blk_drewN ?_ _ | refine blk_drew ?_ | refine blk_alloc ?_ _)); refine blk_far ?_ NB417_428.out _; (with_reducible repeat (first | refine blk_drewN ?_ _ | refine blk_drew ?_ | refine blk_alloc ?_ _)); refine blk_far ?_ NB417_428.out _; (with_reducible repeat (first | refine blk_drewN ?_ _ | refine blk_drew ?_ | refine blk_alloc ?_ _)); exact BK417.out) hb); have n2_ := Aside0.mk (blk_below (g := gb418) (o := .cells #[.int .i64 a1_0, .slice A1_1 l1_1.length c1_1] 39 (0, 0)) (by (with_reducible repeat (first | refine blk_drewN ?_ _ | refine blk_drew ?_ | refine blk_alloc ?_ _)); refine blk_far ?_ NB418_428.out _; (with_reducible repeat (first | refine blk_drewN ?_ _ | refine blk_drew ?_ | refine blk_alloc ?_ _)); refine blk_far ?_ NB418_428.out _; (with_reducible repeat (first | refine blk_drewN ?_ _ | refine blk_drew ?_ | refine blk_alloc ?_ _)); exact BK418.out) hb); have n3_ := Aside0.mk (blk_below (g := gb428) (o := .cells #[.int .i64 t424, .slice Ao37 t425.length co37] 39 (0, 0)) (by (with_reducible repeat (first | refine blk_drewN ?_ _ | refine blk_drew ?_ | refine blk_alloc ?_ _)); refine blk_put (cs := #[.int .i64 t424, .slice none 0 0]) ?_ 1 _ rfl; (with_reducible repeat (first | refine blk_drewN ?_ _ | refine blk_drew ?_ | refine blk_alloc ?_ _)); refine blk_put (cs := #[.int .i64 0, .slice none 0 0]) ?_ 0 _ rfl; (with_reducible repeat (first | refine blk_drewN ?_ _ | refine blk_drew ?_ | refine blk_alloc ?_ _)); exact BK428.out) hb); have n4_ := Aside0.mk (below_step (by repeat (first | (with_reducible first | exact HB.out | apply below_alloc | apply pw_below_drewN | apply below_drew1 | refine below_set ?_ GE417.out | refine below_set ?_ GE418.out | refine below_set ?_ GE428.out) | exact HB.out)) hb); clear HO427; clear BK417; clear BK418; clear BK428; clear HB; have HO427 := n0_; have BK417 := n1_; have BK418 := n2_; have BK428 := n3_; have HB := n4_; clear n0_ n1_ n2_ n3_ n4_; (try clear hb); (try clear hb2); (try clear hk); (try clear hi)))
            go_meet
            case rel => exact ⟨_, (true), (by first | rfl | (simp; done) | (simp [*]; done)), H', ⟨by have := HJ3.out; first | omega | exact Nat.le_refl _⟩, ⟨by (with_reducible repeat (first | apply Kd.N_alloc | apply Kd.N_drewN | apply Kd.N_drew)); exact Kd.N_mono HO427.out (fun _ hk => ⟨hk.1.1, ⟨hk.1.2, hk.2⟩⟩)⟩, ⟨by (with_reducible repeat (first | refine blk_drewN ?_ _ | refine blk_drew ?_ | refine blk_alloc ?_ _)); exact BK417.out⟩, ⟨by (with_reducible repeat (first | refine blk_drewN ?_ _ | refine blk_drew ?_ | refine blk_alloc ?_ _)); exact BK418.out⟩, ⟨by (with_reducible repeat (first | refine blk_drewN ?_ _ | refine blk_drew ?_ | refine blk_alloc ?_ _)); exact BK428.out⟩, ⟨by repeat (first | (with_reducible first | exact HB.out | apply below_alloc | apply pw_below_drewN | apply below_drew1 | refine below_set ?_ GE417.out | refine below_set ?_ GE418.out | refine below_set ?_ GE428.out) | exact HB.out)⟩⟩
          · rw [if_neg c39] at H
            have c39b0 : (t429 != (decide (t422 > 0))) = false := by simpa using c39
            (try (have c39b1 : decide (t429 = (decide (t422 > 0))) = true := by simpa using c39))
            (try (have c39b2 : (t429 == (decide (t422 > 0))) = true := by simpa using c39))
            clear c39
            (first | rw [c39b0] | (simp only [i64_w, i32_w]; rw [c39b0]) | skip)
            replace H := Option.bind_eq_some_iff.mp H
            obtain ⟨t430, A440, H⟩ := H
            replace H : (roadbooklaw06_TreeJoin.j1 kj3 t422 t423 (t430 != (decide (t423 > 0))) a0_0 l0_1 a1_0 l1_1 t424 t425) = some r := H
            have A44 := Aside0.mk A440
            clear A440
            have H' := Aside0.mk H
            clear H
            have hnb45 := NB417_418.out
            have hnc45 := NB418_417.out
            have hnb46 := NB417_428.out
            have hnc46 := NB428_417.out
            have hcz47_0 : w33.cell? ⟨gb417, 0, none⟩ = some (.int .i64 a0_0) := (blk_cell BK417.out 0).trans rfl
            have hcz47_1 : w33.cell? ⟨gb417, 1, none⟩ = some (.slice A0_1 l0_1.length c0_1) := (blk_cell BK417.out 1).trans rfl
            have hfz47_0 := blk_frozen BK417.out 0
            have hfz47_1 := blk_frozen BK417.out 1
            go_wp2_with (first | ((with_reducible refine gate_callee (f := 33) rfl ?_); refine goesL_ (some 32) rfl rfl Try.func33 (by kernel_rfl) rfl #[.agg #[.int .i64 a0_0, .slice A0_1 l0_1.length c0_1]] rfl (by (try simp only [List.map_toArray, List.map_cons, List.map_nil]); first | done | rfl | (simp only [List.length_drop, List.length_take]; rfl)) ?_; (with_reducible refine (tree_May.calls kj3 a0_0 _ _ l0_1 t429 _ ?side1 ?side2 A38.out).mono ?_); (case side1 => exact Kd.C_below HR0_1.out (by repeat (first | (with_reducible first | exact HB.out | apply below_alloc | apply pw_below_drewN | apply below_drew1 | refine below_set ?_ GE417.out | refine below_set ?_ GE418.out | refine below_set ?_ GE428.out) | exact HB.out))); (case side2 => exact HC0_1.out); rintro e w48 ⟨rfl, hb⟩; refine ⟨_, rfl, ?_⟩; have n0_ := Aside0.mk (Kd.N_below (by (with_reducible repeat (first | apply Kd.N_alloc | apply Kd.N_drewN | apply Kd.N_drew)); exact (Kd.N_mono (Kd.N_far (p := ⟨gb428, 1, none⟩) (Kd.N_far (p := ⟨gb428, 0, none⟩) (Kd.N_mono HO427.out (fun k_ hk => (⟨hk, hk.2⟩ : _ ∧ k_ ≠ gb428))) (fun _ hk => hk.2) (.int .i64 t424)) (fun _ hk => hk.2) (.slice Ao37 t425.length co37)) (fun _ h_ => h_.1))) hb); have n1_ := Aside0.mk (blk_below (g := gb417) (o := .cells #[.int .i64 a0_0, .slice A0_1 l0_1.length c0_1] 39 (0, 0)) (by (with_reducible repeat (first | refine blk_drewN ?_ _ | refine blk_drew ?_ | refine blk_alloc ?_ _)); refine blk_far ?_ NB417_428.out _; (with_reducible repeat (first | refine blk_drewN ?_ _ | refine blk_drew ?_ | refine blk_alloc ?_ _)); refine blk_far ?_ NB417_428.out _; (with_reducible repeat (first | refine blk_drewN ?_ _ | refine blk_drew ?_ | refine blk_alloc ?_ _)); exact BK417.out) hb); have n2_ := Aside0.mk (blk_below (g := gb418) (o := .cells #[.int .i64 a1_0, .slice A1_1 l1_1.length c1_1] 39 (0, 0)) (by (with_reducible repeat (first | refine blk_drewN ?_ _ | refine blk_drew ?_ | refine blk_alloc ?_ _)); refine blk_far ?_ NB418_428.out _; (with_reducible repeat (first | refine blk_drewN ?_ _ | refine blk_drew ?_ | refine blk_alloc ?_ _)); refine blk_far ?_ NB418_428.out _; (with_reducible repeat (first | refine blk_drewN ?_ _ | refine blk_drew ?_ | refine blk_alloc ?_ _)); exact BK418.out) hb); have n3_ := Aside0.mk (blk_below (g := gb428) (o := .cells #[.int .i64 t424, .slice Ao37 t425.length co37] 39 (0, 0)) (by (with_reducible repeat (first | refine blk_drewN ?_ _ | refine blk_drew ?_ | refine blk_alloc ?_ _)); refine blk_put (cs := #[.int .i64 t424, .slice none 0 0]) ?_ 1 _ rfl; (with_reducible repeat (first | refine blk_drewN ?_ _ | refine blk_drew ?_ | refine blk_alloc ?_ _)); refine blk_put (cs := #[.int .i64 0, .slice none 0 0]) ?_ 0 _ rfl; (with_reducible repeat (first | refine blk_drewN ?_ _ | refine blk_drew ?_ | refine blk_alloc ?_ _)); exact BK428.out) hb); have n4_ := Aside0.mk (below_step (by repeat (first | (with_reducible first | exact HB.out | apply below_alloc | apply pw_below_drewN | apply below_drew1 | refine below_set ?_ GE417.out | refine below_set ?_ GE418.out | refine below_set ?_ GE428.out) | exact HB.out)) hb); clear HO427; clear BK417; clear BK418; clear BK428; clear HB; have HO427 := n0_; have BK417 := n1_; have BK418 := n2_; have BK428 := n3_; have HB := n4_; clear n0_ n1_ n2_ n3_ n4_; (try clear hb); (try clear hb2); (try clear hk); (try clear hi); have hnb49 := NB418_428.out; have hnc49 := NB428_418.out; have hcz50_0 : w48.cell? ⟨gb418, 0, none⟩ = some (.int .i64 a1_0) := (blk_cell BK418.out 0).trans rfl; have hcz50_1 : w48.cell? ⟨gb418, 1, none⟩ = some (.slice A1_1 l1_1.length c1_1) := (blk_cell BK418.out 1).trans rfl; have hfz50_0 := blk_frozen BK418.out 0; have hfz50_1 := blk_frozen BK418.out 1) | (go_at_call 33; (with_reducible refine (tree_May.calls kj3 a1_0 _ _ l1_1 t430 _ ?side1 ?side2 A44.out).mono ?_); (case side1 => repeat (first | exact (Kd.C_below HR1_1.out HB.out) | (with_reducible refine Kd.C_alloc ?_ _) | (with_reducible refine Kd.C_drewN ?_ _) | (with_reducible refine Kd.C_drew ?_))); (case side2 => exact HC1_1.out); rintro e w51 ⟨rfl, hb⟩; have n0_ := Aside0.mk (Kd.N_below (by (with_reducible repeat (first | apply Kd.N_alloc | apply Kd.N_drewN | apply Kd.N_drew)); exact HO427.out) hb); have n1_ := Aside0.mk (blk_below (g := gb417) (o := .cells #[.int .i64 a0_0, .slice A0_1 l0_1.length c0_1] 39 (0, 0)) (by (with_reducible repeat (first | refine blk_drewN ?_ _ | refine blk_drew ?_ | refine blk_alloc ?_ _)); exact BK417.out) hb); have n2_ := Aside0.mk (blk_below (g := gb418) (o := .cells #[.int .i64 a1_0, .slice A1_1 l1_1.length c1_1] 39 (0, 0)) (by (with_reducible repeat (first | refine blk_drewN ?_ _ | refine blk_drew ?_ | refine blk_alloc ?_ _)); exact BK418.out) hb); have n3_ := Aside0.mk (blk_below (g := gb428) (o := .cells #[.int .i64 t424, .slice Ao37 t425.length co37] 39 (0, 0)) (by (with_reducible repeat (first | refine blk_drewN ?_ _ | refine blk_drew ?_ | refine blk_alloc ?_ _)); exact BK428.out) hb); have n4_ := Aside0.mk (below_step (by repeat (first | (with_reducible first | exact HB.out | apply below_alloc | apply pw_below_drewN | apply below_drew1 | refine below_set ?_ GE417.out | refine below_set ?_ GE418.out | refine below_set ?_ GE428.out) | exact HB.out)) hb); clear HO427; clear BK417; clear BK418; clear BK428; clear HB; have HO427 := n0_; have BK417 := n1_; have BK418 := n2_; have BK428 := n3_; have HB := n4_; clear n0_ n1_ n2_ n3_ n4_; (try clear hb); (try clear hb2); (try clear hk); (try clear hi)))
            go_meet
            case rel => exact ⟨_, ((t430 != (decide (t423 > 0)))), (by first | rfl | (simp; done) | (simp [*]; done)), H', ⟨by have := HJ3.out; first | omega | exact Nat.le_refl _⟩, ⟨by (with_reducible repeat (first | apply Kd.N_alloc | apply Kd.N_drewN | apply Kd.N_drew)); exact Kd.N_mono HO427.out (fun _ hk => ⟨hk.1.1, ⟨hk.1.2, hk.2⟩⟩)⟩, ⟨by (with_reducible repeat (first | refine blk_drewN ?_ _ | refine blk_drew ?_ | refine blk_alloc ?_ _)); exact BK417.out⟩, ⟨by (with_reducible repeat (first | refine blk_drewN ?_ _ | refine blk_drew ?_ | refine blk_alloc ?_ _)); exact BK418.out⟩, ⟨by (with_reducible repeat (first | refine blk_drewN ?_ _ | refine blk_drew ?_ | refine blk_alloc ?_ _)); exact BK428.out⟩, ⟨by repeat (first | (with_reducible first | exact HB.out | apply below_alloc | apply pw_below_drewN | apply below_drew1 | refine below_set ?_ GE417.out | refine below_set ?_ GE418.out | refine below_set ?_ GE428.out) | exact HB.out)⟩⟩
        case rest =>
          clear HC24
          try clear c1
          try clear c2
          try clear p2
          try clear c3
          try clear c4
          try clear c8
          try clear c10
          try clear c10b0
          try clear c11
          try clear c15
          try clear c20
          try clear c25
          try clear c29
          try clear c33
          try clear c34
          try clear c35
          try clear c39
          try clear c39b0
          try clear c39b1
          try clear c39b2
          try clear c40
          try clear c41
          try clear c44
          try clear c45
          try clear c46
          try clear c49
          try clear hcz12_0
          try clear hcz12_1
          try clear hcz16_0
          try clear hcz16_1
          try clear hcz18_0
          try clear hcz18_1
          try clear hcz26_0
          try clear hcz26_1
          try clear hcz28_0
          try clear hcz28_1
          try clear hcz30_0
          try clear hcz30_1
          try clear hcz31_0
          try clear hcz31_1
          try clear hcz36_0
          try clear hcz36_1
          try clear hcz42_0
          try clear hcz42_1
          try clear hcz47_0
          try clear hcz47_1
          try clear hcz50_0
          try clear hcz50_1
          try clear hfz12_0
          try clear hfz12_1
          try clear hfz16_0
          try clear hfz16_1
          try clear hfz18_0
          try clear hfz18_1
          try clear hfz26_0
          try clear hfz26_1
          try clear hfz28_0
          try clear hfz28_1
          try clear hfz30_0
          try clear hfz30_1
          try clear hfz31_0
          try clear hfz31_1
          try clear hfz36_0
          try clear hfz36_1
          try clear hfz42_0
          try clear hfz42_1
          try clear hfz47_0
          try clear hfz47_1
          try clear hfz50_0
          try clear hfz50_1
          try clear p2
          obtain ⟨kq, x42_23, rfl, HA, HJ23, HO_429001, BK417, BK418, BK428, HB⟩ := hcut
          cases kq with
          | zero => exact absurd HA.out (by simp [roadbooklaw06_TreeJoin.j1])
          | succ kj23 =>
            have H := HA.out
            clear HA
            simp only [roadbooklaw06_TreeJoin.j1] at H
            by_cases c52 : x42_23 = true
            · subst c52
              have H1 : (none) = some r := by rw [if_pos rfl] at H; exact H
              clear H
              have H := H1
              clear H1
              exact absurd H (by simp)
            · replace c52 := Bool.eq_false_iff.mpr c52
              subst c52
              have H1 : (if t422 > 0 then (if t423 > 0 then (roadbooklaw06_TreeJoin.j2 kj23 t422 t423 ((Go.bits .and .i64 t422 t423) == 0) a0_0 l0_1 a1_0 l1_1 t424 t425) else (roadbooklaw06_TreeJoin.j2 kj23 t422 t423 false a0_0 l0_1 a1_0 l1_1 t424 t425)) else (roadbooklaw06_TreeJoin.j2 kj23 t422 t423 false a0_0 l0_1 a1_0 l1_1 t424 t425)) = some r := by rw [if_neg (show ¬ (false = true) by decide)] at H; exact H
              clear H
              have H := H1
              clear H1
              have HC53 := Aside0.mk H
              clear H
              go_upto_region 9 with (fail)
              go_cut [9] (fun v9 wc => ∃ (kq : Nat) (x9_52 : Bool), v9 = .bool x9_52 ∧ Aside0 (roadbooklaw06_TreeJoin.j2 kq t422 t423 x9_52 a0_0 l0_1 a1_0 l1_1 t424 t425 = some r) ∧ Aside0 (kq ≤ kj23) ∧ Aside0 (Kd.N k39 39 wc w.heap.size (fun k_ => k_ ≠ gb417 ∧ k_ ≠ gb418 ∧ k_ ≠ gb428) (.slice Ao37 t425.length co37) t425) ∧ Aside0 (wc.heap[gb417]? = some (.cells #[.int .i64 a0_0, (.slice A0_1 l0_1.length c0_1)] 39 (0, 0))) ∧ Aside0 (wc.heap[gb418]? = some (.cells #[.int .i64 a1_0, (.slice A1_1 l1_1.length c1_1)] 39 (0, 0))) ∧ Aside0 (wc.heap[gb428]? = some (.cells #[.int .i64 t424, (.slice Ao37 t425.length co37)] 39 (0, 0))) ∧ Aside0 (Below w.heap.size w wc))
              case first =>
                have H := HC53.out
                clear HC53
                by_cases c54 : t422 > 0
                · rw [if_pos c54] at H
                  have c54b0 : decide (0 < t422) = true := decide_eq_true c54
                  clear c54
                  (first | rw [c54b0] | (simp only [i64_w, i32_w]; rw [c54b0]) | skip)
                  by_cases c55 : t423 > 0
                  · rw [if_pos c55] at H
                    have c55b0 : decide (0 < t423) = true := decide_eq_true c55
                    clear c55
                    have H' := Aside0.mk H
                    clear H
                    go_wp2
                    go_meet
                    case rel => exact ⟨_, (((Go.bits .and .i64 t422 t423) == 0)), (by first | rfl | (simp; done) | (simp [*]; done)), H', ⟨by have := HJ3.out; have := HJ23.out; first | omega | exact Nat.le_refl _⟩, ⟨by (with_reducible repeat (first | apply Kd.N_alloc | apply Kd.N_drewN | apply Kd.N_drew)); exact HO_429001.out⟩, ⟨by (with_reducible repeat (first | refine blk_drewN ?_ _ | refine blk_drew ?_ | refine blk_alloc ?_ _)); exact BK417.out⟩, ⟨by (with_reducible repeat (first | refine blk_drewN ?_ _ | refine blk_drew ?_ | refine blk_alloc ?_ _)); exact BK418.out⟩, ⟨by (with_reducible repeat (first | refine blk_drewN ?_ _ | refine blk_drew ?_ | refine blk_alloc ?_ _)); exact BK428.out⟩, ⟨by repeat (first | (with_reducible first | exact HB.out | apply below_alloc | apply pw_below_drewN | apply below_drew1 | refine below_set ?_ GE417.out | refine below_set ?_ GE418.out | refine below_set ?_ GE428.out) | exact HB.out)⟩⟩
                  · rw [if_neg c55] at H
                    have c55b0 : decide (0 < t423) = false := decide_eq_false c55
                    clear c55
                    have H' := Aside0.mk H
                    clear H
                    go_wp2
                    go_meet
                    case rel => exact ⟨_, (false), (by first | rfl | (simp; done) | (simp [*]; done)), H', ⟨by have := HJ3.out; have := HJ23.out; first | omega | exact Nat.le_refl _⟩, ⟨by (with_reducible repeat (first | apply Kd.N_alloc | apply Kd.N_drewN | apply Kd.N_drew)); exact HO_429001.out⟩, ⟨by (with_reducible repeat (first | refine blk_drewN ?_ _ | refine blk_drew ?_ | refine blk_alloc ?_ _)); exact BK417.out⟩, ⟨by (with_reducible repeat (first | refine blk_drewN ?_ _ | refine blk_drew ?_ | refine blk_alloc ?_ _)); exact BK418.out⟩, ⟨by (with_reducible repeat (first | refine blk_drewN ?_ _ | refine blk_drew ?_ | refine blk_alloc ?_ _)); exact BK428.out⟩, ⟨by repeat (first | (with_reducible first | exact HB.out | apply below_alloc | apply pw_below_drewN | apply below_drew1 | refine below_set ?_ GE417.out | refine below_set ?_ GE418.out | refine below_set ?_ GE428.out) | exact HB.out)⟩⟩
                · rw [if_neg c54] at H
                  have c54b0 : decide (0 < t422) = false := decide_eq_false c54
                  clear c54
                  (first | rw [c54b0] | (simp only [i64_w, i32_w]; rw [c54b0]) | skip)
                  have H' := Aside0.mk H
                  clear H
                  go_wp2
                  go_meet
                  case rel => exact ⟨_, (false), (by first | rfl | (simp; done) | (simp [*]; done)), H', ⟨by have := HJ3.out; have := HJ23.out; first | omega | exact Nat.le_refl _⟩, ⟨by (with_reducible repeat (first | apply Kd.N_alloc | apply Kd.N_drewN | apply Kd.N_drew)); exact HO_429001.out⟩, ⟨by (with_reducible repeat (first | refine blk_drewN ?_ _ | refine blk_drew ?_ | refine blk_alloc ?_ _)); exact BK417.out⟩, ⟨by (with_reducible repeat (first | refine blk_drewN ?_ _ | refine blk_drew ?_ | refine blk_alloc ?_ _)); exact BK418.out⟩, ⟨by (with_reducible repeat (first | refine blk_drewN ?_ _ | refine blk_drew ?_ | refine blk_alloc ?_ _)); exact BK428.out⟩, ⟨by repeat (first | (with_reducible first | exact HB.out | apply below_alloc | apply pw_below_drewN | apply below_drew1 | refine below_set ?_ GE417.out | refine below_set ?_ GE418.out | refine below_set ?_ GE428.out) | exact HB.out)⟩⟩
              case rest =>
                clear HC53
                try clear c1
                try clear c2
                try clear p2
                try clear c3
                try clear c4
                try clear c5
                try clear c8
                try clear c10
                try clear c10b0
                try clear c11
                try clear c15
                try clear c20
                try clear c25
                try clear c29
                try clear c33
                try clear c34
                try clear c35
                try clear c39
                try clear c39b0
                try clear c39b1
                try clear c39b2
                try clear c40
                try clear c41
                try clear c44
                try clear c45
                try clear c46
                try clear c49
                try clear c52
                try clear c54
                try clear c54b0
                try clear c55
                try clear c55b0
                try clear hcz12_0
                try clear hcz12_1
                try clear hcz16_0
                try clear hcz16_1
                try clear hcz18_0
                try clear hcz18_1
                try clear hcz26_0
                try clear hcz26_1
                try clear hcz28_0
                try clear hcz28_1
                try clear hcz30_0
                try clear hcz30_1
                try clear hcz31_0
                try clear hcz31_1
                try clear hcz36_0
                try clear hcz36_1
                try clear hcz42_0
                try clear hcz42_1
                try clear hcz47_0
                try clear hcz47_1
                try clear hcz50_0
                try clear hcz50_1
                try clear hfz12_0
                try clear hfz12_1
                try clear hfz16_0
                try clear hfz16_1
                try clear hfz18_0
                try clear hfz18_1
                try clear hfz26_0
                try clear hfz26_1
                try clear hfz28_0
                try clear hfz28_1
                try clear hfz30_0
                try clear hfz30_1
                try clear hfz31_0
                try clear hfz31_1
                try clear hfz36_0
                try clear hfz36_1
                try clear hfz42_0
                try clear hfz42_1
                try clear hfz47_0
                try clear hfz47_1
                try clear hfz50_0
                try clear hfz50_1
                try clear p2
                obtain ⟨kq, x9_52, rfl, HA, HJ52, HO_429001, BK417, BK418, BK428, HB⟩ := hcut
                cases kq with
                | zero => exact absurd HA.out (by simp [roadbooklaw06_TreeJoin.j2])
                | succ kj52 =>
                  have H := HA.out
                  clear HA
                  simp only [roadbooklaw06_TreeJoin.j2] at H
                  replace H := Option.bind_eq_some_iff.mp H
                  obtain ⟨t431, A560, H⟩ := H
                  replace H : (if (t431 == x9_52) = true then (if x9_52 = true then ((tree_Set.f kj52 t424 t425).bind fun t432 => (if t432 = (Go.bits .or .i64 t422 t423) then ((tree_Join.f a0_0 l0_1 a1_0 l1_1).bind fun bt433 => ((tree_Same.f kj52 t424 t425 bt433.1 bt433.2).bind fun t437 => (some t437))) else (none))) else ((tree_Join.f a0_0 l0_1 a1_0 l1_1).bind fun bt438 => ((tree_Same.f kj52 t424 t425 bt438.1 bt438.2).bind fun t442 => (some t442)))) else (none)) = some r := H
                  have A56 := Aside0.mk A560
                  clear A560
                  by_cases c57 : (t431 == x9_52) = true
                  · rw [if_pos c57] at H
                    have c57b0 : (t431 == x9_52) = true := c57
                    (try (have c57b1 : decide (t431 = x9_52) = true := by simpa using c57))
                    (try (have c57b2 : (t431 == x9_52) = true := by simpa using c57))
                    clear c57
                    by_cases c58 : x9_52 = true
                    · subst c58
                      have H1 : ((tree_Set.f kj52 t424 t425).bind fun t432 => (if t432 = (Go.bits .or .i64 t422 t423) then ((tree_Join.f a0_0 l0_1 a1_0 l1_1).bind fun bt433 => ((tree_Same.f kj52 t424 t425 bt433.1 bt433.2).bind fun t437 => (some t437))) else (none))) = some r := by rw [if_pos rfl] at H; exact H
                      clear H
                      have H := H1
                      clear H1
                      replace H := Option.bind_eq_some_iff.mp H
                      obtain ⟨t432, A590, H⟩ := H
                      replace H : (if t432 = (Go.bits .or .i64 t422 t423) then ((tree_Join.f a0_0 l0_1 a1_0 l1_1).bind fun bt433 => ((tree_Same.f kj52 t424 t425 bt433.1 bt433.2).bind fun t437 => (some t437))) else (none)) = some r := H
                      have A59 := Aside0.mk A590
                      clear A590
                      by_cases c60 : t432 = (Go.bits .or .i64 t422 t423)
                      · rw [if_pos c60] at H
                        have c60b0 : (t432 == (Go.bits .or .i64 t422 t423)) = true := beq_iff_eq.mpr c60
                        have c60b1 : (t432 != (Go.bits .or .i64 t422 t423)) = false := bne_eq_false_iff_eq.mpr c60
                        clear c60
                        replace H := Option.bind_eq_some_iff.mp H
                        obtain ⟨⟨t433, t434⟩, A610, H⟩ := H
                        replace H : ((tree_Same.f kj52 t424 t425 t433 t434).bind fun t437 => (some t437)) = some r := H
                        have A61 := Aside0.mk A610
                        clear A610
                        replace H := Option.bind_eq_some_iff.mp H
                        obtain ⟨t437, A620, H⟩ := H
                        replace H : (some t437) = some r := H
                        have A62 := Aside0.mk A620
                        clear A620
                        obtain rfl := Option.some.inj H
                        try go_wp2
                        have n0_ := Aside0.mk (Kd.N_drew HO_429001.out)
                        have n1_ := Aside0.mk (blk_drew BK417.out)
                        have n2_ := Aside0.mk (blk_drew BK418.out)
                        have n3_ := Aside0.mk (blk_drew BK428.out)
                        have n4_ := Aside0.mk (below_drew1 HB.out)
                        clear HO_429001
                        clear BK417
                        clear BK418
                        clear BK428
                        clear HB
                        have HO_429001 := n0_
                        have BK417 := n1_
                        have BK418 := n2_
                        have BK428 := n3_
                        have HB := n4_
                        clear n0_ n1_ n2_ n3_ n4_
                        refine start_ (n := 24) (S := fun w' => w'.cell? ⟨gb428, 0, none⟩ = some (.int .i64 t424) ∧ w'.cell? ⟨gb428, 1, none⟩ = some (.slice Ao37 t425.length co37) ∧ w'.cell? ⟨gb417, 0, none⟩ = some (.int .i64 a0_0) ∧ w'.cell? ⟨gb417, 1, none⟩ = some (.slice A0_1 l0_1.length c0_1) ∧ w'.cell? ⟨gb418, 0, none⟩ = some (.int .i64 a1_0) ∧ w'.cell? ⟨gb418, 1, none⟩ = some (.slice A1_1 l1_1.length c1_1)) (ds := []) #[false, false, false, false, false, false, false, false, false, false, false, false, false, false, false, false, false, false, false, false, false, false, false, false] (by kernel_rfl) rfl rfl ⟨(blk_cell BK428.out 0).trans rfl, (blk_cell BK428.out 1).trans rfl, (blk_cell BK417.out 0).trans rfl, (blk_cell BK417.out 1).trans rfl, (blk_cell BK418.out 0).trans rfl, (blk_cell BK418.out 1).trans rfl⟩ (fun hHeld => ?_); refine with_tabW roadbooklaw06_TreeJoin.tab10 roadbooklaw06_TreeJoin.bits10 (fun HT_ HW_ => ?_)
                        generalize wc.drew = w63 at HO_429001 BK417 BK418 BK428 HB hHeld ⊢
                        refine pure_ (i := 2) (N := some 57) (v := ?_) (a' := ?_) #[false, false, true, false, false, false, false, false, false, false, false, false, false, false, false, false, false, false, false, false, false, false, false, false] rfl rfl (any_of HT_.out (by kernel_rfl)) (fun _ _ _ h => h) (Or.inl ⟨by rfl, ?_⟩) ?_ ?_
                        rotate_left
                        · intro w'
                          go_simp
                          with_reducible rfl
                        rotate_left
                        · simp only [Act.put, List.setIfInBounds_toArray, List.set_cons_zero, List.set_cons_succ, i64_w, i32_w]
                          rfl
                        refine take_ (i := 0) (N := some 55) (v := ?_) (a' := ?_) #[true, false, true, false, false, false, false, false, false, false, false, false, false, false, false, false, false, false, false, false, false, false, false, false] rfl rfl (take_ofW HT_.out HW_.out (by kernel_rfl)) (fun _ _ _ h => h) (Or.inl ⟨by rfl, ?_⟩) hHeld ?_ ?_
                        rotate_left
                        · rintro w' ⟨s0, s1, s2, s3, s4, s5⟩
                          go_simp
                          with_reducible rfl
                        rotate_left
                        · simp only [Act.put, List.setIfInBounds_toArray, List.set_cons_zero, List.set_cons_succ, i64_w, i32_w]
                          rfl
                        refine one_ (i := 1) (N := some 56) #[true, true, true, false, false, false, false, false, false, false, false, false, false, false, false, false, false, false, false, false, false, false, false, false] rfl rfl (one_of HT_.out (by kernel_rfl)) (by decide) (fun K hK => ?_)
                        refine goes_ Try.func33 (by kernel_rfl) rfl #[.agg #[.int .i64 t424, .slice Ao37 t425.length co37]] (by rfl) rfl rfl (by (try simp only [List.map_toArray, List.map_cons, List.map_nil]); first | done | rfl | (simp only [List.length_drop, List.length_take]; rfl)) ?_
                        with_reducible refine (tree_May.calls kj52 t424 _ _ t425 t431 _ ?side1 ?side2 A56.out).mono ?_
                        (case side1 => repeat (first | exact (Kd.N_reads' HO_429001.out).2.2 | (with_reducible refine Kd.C_alloc ?_ _) | (with_reducible refine Kd.C_drewN ?_ _) | (with_reducible refine Kd.C_drew ?_)))
                        (case side2 => exact (Kd.N_reads' HO_429001.out).2.1)
                        rintro e w64 ⟨rfl, hb⟩
                        refine ⟨_, rfl, ?_⟩
                        have n0_ := Aside0.mk (Kd.N_below (by (with_reducible repeat (first | apply Kd.N_alloc | apply Kd.N_drewN | apply Kd.N_drew)); exact HO_429001.out) hb)
                        have n1_ := Aside0.mk (blk_below (g := gb417) (o := .cells #[.int .i64 a0_0, .slice A0_1 l0_1.length c0_1] 39 (0, 0)) (by (with_reducible repeat (first | refine blk_drewN ?_ _ | refine blk_drew ?_ | refine blk_alloc ?_ _)); exact BK417.out) hb)
                        have n2_ := Aside0.mk (blk_below (g := gb418) (o := .cells #[.int .i64 a1_0, .slice A1_1 l1_1.length c1_1] 39 (0, 0)) (by (with_reducible repeat (first | refine blk_drewN ?_ _ | refine blk_drew ?_ | refine blk_alloc ?_ _)); exact BK418.out) hb)
                        have n3_ := Aside0.mk (blk_below (g := gb428) (o := .cells #[.int .i64 t424, .slice Ao37 t425.length co37] 39 (0, 0)) (by (with_reducible repeat (first | refine blk_drewN ?_ _ | refine blk_drew ?_ | refine blk_alloc ?_ _)); exact BK428.out) hb)
                        have n4_ := Aside0.mk (below_step (by repeat (first | (with_reducible first | exact HB.out | apply below_alloc | apply pw_below_drewN | apply below_drew1 | refine below_set ?_ GE417.out | refine below_set ?_ GE418.out | refine below_set ?_ GE428.out) | exact HB.out)) hb)
                        clear HO_429001
                        clear BK417
                        clear BK418
                        clear BK428
                        clear HB
                        have HO_429001 := n0_
                        have BK417 := n1_
                        have BK418 := n2_
                        have BK428 := n3_
                        have HB := n4_
                        clear n0_ n1_ n2_ n3_ n4_
                        (try clear hb)
                        (try clear hb2)
                        (try clear hk)
                        (try clear hi)
                        refine hK.out _ _ ⟨(blk_cell BK428.out 0).trans rfl, (blk_cell BK428.out 1).trans rfl, (blk_cell BK417.out 0).trans rfl, (blk_cell BK417.out 1).trans rfl, (blk_cell BK418.out 0).trans rfl, (blk_cell BK418.out 1).trans rfl⟩ (fun hHeld => ?_)
                        clear hK K
                        refine norm_ (a' := ?_) ?_ ?_
                        rotate_left
                        · show Act.put _ (some 56) _ = _
                          simp only [Act.put, List.setIfInBounds_toArray, List.set_cons_zero, List.set_cons_succ, i64_w, i32_w]
                          rfl
                        refine pure_ (i := 3) (N := some 58) (v := ?_) (a' := ?_) #[true, true, true, true, false, false, false, false, false, false, false, false, false, false, false, false, false, false, false, false, false, false, false, false] rfl rfl (any_of HT_.out (by kernel_rfl)) (fun _ _ _ h => h) (Or.inl ⟨by rfl, ?_⟩) ?_ ?_
                        rotate_left
                        · intro w'
                          go_simp
                          with_reducible rfl
                        rotate_left
                        · simp only [Act.put, List.setIfInBounds_toArray, List.set_cons_zero, List.set_cons_succ, i64_w, i32_w]
                          rfl
                        refine pure_ (i := 4) (N := some 59) (v := ?_) (a' := ?_) #[true, true, true, true, true, false, false, false, false, false, false, false, false, false, false, false, false, false, false, false, false, false, false, false] rfl rfl (any_of HT_.out (by kernel_rfl)) (fun _ _ _ h => h) (Or.inl ⟨by rfl, ?_⟩) ?_ ?_
                        rotate_left
                        · intro w'
                          go_simp
                          with_reducible rfl
                        rotate_left
                        · simp only [Act.put, List.setIfInBounds_toArray, List.set_cons_zero, List.set_cons_succ, i64_w, i32_w]
                          rfl
                        refine pure_ (i := 5) (N := some 60) (v := ?_) (a' := ?_) #[true, true, true, true, true, true, false, false, false, false, false, false, false, false, false, false, false, false, false, false, false, false, false, false] rfl rfl (any_of HT_.out (by kernel_rfl)) (fun _ _ _ h => h) (Or.inl ⟨by rfl, ?_⟩) ?_ ?_
                        rotate_left
                        · intro w'
                          go_simp
                          with_reducible rfl
                        rotate_left
                        · simp only [Act.put, List.setIfInBounds_toArray, List.set_cons_zero, List.set_cons_succ, i64_w, i32_w]
                          rfl
                        refine pure_ (i := 6) (N := some 61) (v := ?_) (a' := ?_) #[true, true, true, true, true, true, true, false, false, false, false, false, false, false, false, false, false, false, false, false, false, false, false, false] rfl rfl (any_of HT_.out (by kernel_rfl)) (fun _ _ _ h => h) (Or.inl ⟨by rfl, ?_⟩) ?_ ?_
                        rotate_left
                        · intro w'
                          go_simp
                          with_reducible rfl
                        rotate_left
                        · simp only [Act.put, List.setIfInBounds_toArray, List.set_cons_zero, List.set_cons_succ, i64_w, i32_w]
                          rfl
                        refine pure_ (i := 7) (N := some 62) (v := ?_) (a' := ?_) #[true, true, true, true, true, true, true, true, false, false, false, false, false, false, false, false, false, false, false, false, false, false, false, false] rfl rfl (any_of HT_.out (by kernel_rfl)) (fun _ _ _ h => h) (Or.inl ⟨by rfl, ?_⟩) ?_ ?_
                        rotate_left
                        · intro w'
                          go_simp
                          with_reducible rfl
                        rotate_left
                        · simp only [Act.put, List.setIfInBounds_toArray, List.set_cons_zero, List.set_cons_succ, i64_w, i32_w]
                          rfl
                        refine pure_ (i := 10) (N := some 65) (v := ?_) (a' := ?_) #[true, true, true, true, true, true, true, true, false, false, true, false, false, false, false, false, false, false, false, false, false, false, false, false] rfl rfl (any_of HT_.out (by kernel_rfl)) (fun _ _ _ h => h) (Or.inl ⟨by rfl, ?_⟩) ?_ ?_
                        rotate_left
                        · intro w'
                          go_simp
                          with_reducible rfl
                        rotate_left
                        · simp only [Act.put, List.setIfInBounds_toArray, List.set_cons_zero, List.set_cons_succ, i64_w, i32_w]
                          rfl
                        refine pure_ (i := 11) (N := some 66) (v := ?_) (a' := ?_) #[true, true, true, true, true, true, true, true, false, false, true, true, false, false, false, false, false, false, false, false, false, false, false, false] rfl rfl (any_of HT_.out (by kernel_rfl)) (fun _ _ _ h => h) (Or.inl ⟨by rfl, ?_⟩) ?_ ?_
                        rotate_left
                        · intro w'
                          go_simp
                          with_reducible rfl
                        rotate_left
                        · simp only [Act.put, List.setIfInBounds_toArray, List.set_cons_zero, List.set_cons_succ, i64_w, i32_w]
                          rfl
                        refine pure_ (i := 12) (N := some 67) (v := ?_) (a' := ?_) #[true, true, true, true, true, true, true, true, false, false, true, true, true, false, false, false, false, false, false, false, false, false, false, false] rfl rfl (any_of HT_.out (by kernel_rfl)) (fun _ _ _ h => h) (Or.inl ⟨by rfl, ?_⟩) ?_ ?_
                        rotate_left
                        · intro w'
                          go_simp
                          with_reducible rfl
                        rotate_left
                        · simp only [Act.put, List.setIfInBounds_toArray, List.set_cons_zero, List.set_cons_succ, i64_w, i32_w]
                          rfl
                        refine take_ (i := 8) (N := some 63) (v := ?_) (a' := ?_) #[true, true, true, true, true, true, true, true, true, false, true, true, true, false, false, false, false, false, false, false, false, false, false, false] rfl rfl (take_ofW HT_.out HW_.out (by kernel_rfl)) (fun _ _ _ h => h) (Or.inl ⟨by rfl, ?_⟩) hHeld ?_ ?_
                        rotate_left
                        · rintro w' ⟨s0, s1, s2, s3, s4, s5⟩
                          go_simp
                          with_reducible rfl
                        rotate_left
                        · simp only [Act.put, List.setIfInBounds_toArray, List.set_cons_zero, List.set_cons_succ, i64_w, i32_w]
                          rfl
                        refine one_ (i := 9) (N := some 64) #[true, true, true, true, true, true, true, true, true, true, true, true, true, false, false, false, false, false, false, false, false, false, false, false] rfl rfl (one_of HT_.out (by kernel_rfl)) (by decide) (fun K hK => ?_)
                        refine goes_ Try.func35 (by kernel_rfl) rfl #[.agg #[.int .i64 t424, .slice Ao37 t425.length co37]] (by rfl) rfl rfl (by (try simp only [List.map_toArray, List.map_cons, List.map_nil]); first | done | rfl | (simp only [List.length_drop, List.length_take]; rfl)) ?_
                        with_reducible refine (tree_Set.calls kj52 t424 _ _ t425 t432 _ ?side1 ?side2 A59.out).mono ?_
                        (case side1 => repeat (first | exact (Kd.N_reads' HO_429001.out).2.2 | (with_reducible refine Kd.C_alloc ?_ _) | (with_reducible refine Kd.C_drewN ?_ _) | (with_reducible refine Kd.C_drew ?_)))
                        (case side2 => exact (Kd.N_reads' HO_429001.out).2.1)
                        rintro e w65 ⟨rfl, hb⟩
                        refine ⟨_, rfl, ?_⟩
                        have n0_ := Aside0.mk (Kd.N_below (by (with_reducible repeat (first | apply Kd.N_alloc | apply Kd.N_drewN | apply Kd.N_drew)); exact HO_429001.out) hb)
                        have n1_ := Aside0.mk (blk_below (g := gb417) (o := .cells #[.int .i64 a0_0, .slice A0_1 l0_1.length c0_1] 39 (0, 0)) (by (with_reducible repeat (first | refine blk_drewN ?_ _ | refine blk_drew ?_ | refine blk_alloc ?_ _)); exact BK417.out) hb)
                        have n2_ := Aside0.mk (blk_below (g := gb418) (o := .cells #[.int .i64 a1_0, .slice A1_1 l1_1.length c1_1] 39 (0, 0)) (by (with_reducible repeat (first | refine blk_drewN ?_ _ | refine blk_drew ?_ | refine blk_alloc ?_ _)); exact BK418.out) hb)
                        have n3_ := Aside0.mk (blk_below (g := gb428) (o := .cells #[.int .i64 t424, .slice Ao37 t425.length co37] 39 (0, 0)) (by (with_reducible repeat (first | refine blk_drewN ?_ _ | refine blk_drew ?_ | refine blk_alloc ?_ _)); exact BK428.out) hb)
                        have n4_ := Aside0.mk (below_step (by repeat (first | (with_reducible first | exact HB.out | apply below_alloc | apply pw_below_drewN | apply below_drew1 | refine below_set ?_ GE417.out | refine below_set ?_ GE418.out | refine below_set ?_ GE428.out) | exact HB.out)) hb)
                        clear HO_429001
                        clear BK417
                        clear BK418
                        clear BK428
                        clear HB
                        have HO_429001 := n0_
                        have BK417 := n1_
                        have BK418 := n2_
                        have BK428 := n3_
                        have HB := n4_
                        clear n0_ n1_ n2_ n3_ n4_
                        (try clear hb)
                        (try clear hb2)
                        (try clear hk)
                        (try clear hi)
                        refine hK.out _ _ ⟨(blk_cell BK428.out 0).trans rfl, (blk_cell BK428.out 1).trans rfl, (blk_cell BK417.out 0).trans rfl, (blk_cell BK417.out 1).trans rfl, (blk_cell BK418.out 0).trans rfl, (blk_cell BK418.out 1).trans rfl⟩ (fun hHeld => ?_)
                        clear hK K
                        refine norm_ (a' := ?_) ?_ ?_
                        rotate_left
                        · show Act.put _ (some 64) _ = _
                          simp only [Act.put, List.setIfInBounds_toArray, List.set_cons_zero, List.set_cons_succ, i64_w, i32_w]
                          rfl
                        refine pure_ (i := 13) (N := some 68) (v := ?_) (a' := ?_) #[true, true, true, true, true, true, true, true, true, true, true, true, true, true, false, false, false, false, false, false, false, false, false, false] rfl rfl (any_of HT_.out (by kernel_rfl)) (fun _ _ _ h => h) (Or.inl ⟨by rfl, ?_⟩) ?_ ?_
                        rotate_left
                        · intro w'
                          go_simp
                          with_reducible rfl
                        rotate_left
                        · simp only [Act.put, List.setIfInBounds_toArray, List.set_cons_zero, List.set_cons_succ, i64_w, i32_w]
                          rfl
                        refine pure_ (i := 14) (N := some 69) (v := ?_) (a' := ?_) #[true, true, true, true, true, true, true, true, true, true, true, true, true, true, true, false, false, false, false, false, false, false, false, false] rfl rfl (any_of HT_.out (by kernel_rfl)) (fun _ _ _ h => h) (Or.inl ⟨by rfl, ?_⟩) ?_ ?_
                        rotate_left
                        · intro w'
                          go_simp
                          with_reducible rfl
                        rotate_left
                        · simp only [Act.put, List.setIfInBounds_toArray, List.set_cons_zero, List.set_cons_succ, i64_w, i32_w]
                          rfl
                        refine pure_ (i := 15) (N := some 70) (v := ?_) (a' := ?_) #[true, true, true, true, true, true, true, true, true, true, true, true, true, true, true, true, false, false, false, false, false, false, false, false] rfl rfl (any_of HT_.out (by kernel_rfl)) (fun _ _ _ h => h) (Or.inl ⟨by rfl, ?_⟩) ?_ ?_
                        rotate_left
                        · intro w'
                          go_simp
                          with_reducible rfl
                        rotate_left
                        · simp only [Act.put, List.setIfInBounds_toArray, List.set_cons_zero, List.set_cons_succ, i64_w, i32_w]
                          rfl
                        refine pure_ (i := 16) (N := some 71) (v := ?_) (a' := ?_) #[true, true, true, true, true, true, true, true, true, true, true, true, true, true, true, true, true, false, false, false, false, false, false, false] rfl rfl (any_of HT_.out (by kernel_rfl)) (fun _ _ _ h => h) (Or.inl ⟨by rfl, ?_⟩) ?_ ?_
                        rotate_left
                        · intro w'
                          go_simp
                          with_reducible rfl
                        rotate_left
                        · simp only [Act.put, List.setIfInBounds_toArray, List.set_cons_zero, List.set_cons_succ, i64_w, i32_w]
                          rfl
                        refine take_ (i := 17) (N := some 72) (v := ?_) (a' := ?_) #[true, true, true, true, true, true, true, true, true, true, true, true, true, true, true, true, true, true, false, false, false, false, false, false] rfl rfl (take_ofW HT_.out HW_.out (by kernel_rfl)) (fun _ _ _ h => h) (Or.inl ⟨by rfl, ?_⟩) hHeld ?_ ?_
                        rotate_left
                        · rintro w' ⟨s0, s1, s2, s3, s4, s5⟩
                          go_simp
                          with_reducible rfl
                        rotate_left
                        · simp only [Act.put, List.setIfInBounds_toArray, List.set_cons_zero, List.set_cons_succ, i64_w, i32_w]
                          rfl
                        refine take_ (i := 18) (N := some 73) (v := ?_) (a' := ?_) #[true, true, true, true, true, true, true, true, true, true, true, true, true, true, true, true, true, true, true, false, false, false, false, false] rfl rfl (take_ofW HT_.out HW_.out (by kernel_rfl)) (fun _ _ _ h => h) (Or.inl ⟨by rfl, ?_⟩) hHeld ?_ ?_
                        rotate_left
                        · rintro w' ⟨s0, s1, s2, s3, s4, s5⟩
                          go_simp
                          with_reducible rfl
                        rotate_left
                        · simp only [Act.put, List.setIfInBounds_toArray, List.set_cons_zero, List.set_cons_succ, i64_w, i32_w]
                          rfl
                        refine take_ (i := 19) (N := some 74) (v := ?_) (a' := ?_) #[true, true, true, true, true, true, true, true, true, true, true, true, true, true, true, true, true, true, true, true, false, false, false, false] rfl rfl (take_ofW HT_.out HW_.out (by kernel_rfl)) (fun _ _ _ h => h) (Or.inl ⟨by rfl, ?_⟩) hHeld ?_ ?_
                        rotate_left
                        · rintro w' ⟨s0, s1, s2, s3, s4, s5⟩
                          go_simp
                          with_reducible rfl
                        rotate_left
                        · simp only [Act.put, List.setIfInBounds_toArray, List.set_cons_zero, List.set_cons_succ, i64_w, i32_w]
                          rfl
                        refine one_ (i := 20) (N := some 75) #[true, true, true, true, true, true, true, true, true, true, true, true, true, true, true, true, true, true, true, true, true, false, false, false] rfl rfl (one_of HT_.out (by kernel_rfl)) (by decide) (fun K hK => ?_)
                        refine goes_ Try.func44 (by kernel_rfl) rfl #[.agg #[.int .i64 a0_0, .slice A0_1 l0_1.length c0_1], .agg #[.int .i64 a1_0, .slice A1_1 l1_1.length c1_1]] (by rfl) rfl rfl (by (try simp only [List.map_toArray, List.map_cons, List.map_nil]); first | done | rfl | (simp only [List.length_drop, List.length_take]; rfl)) ?_
                        with_reducible refine (tree_Join.calls a0_0 (fun k_ => k_ < w.heap.size) _ _ l0_1 a1_0 (fun k_ => k_ < w.heap.size) _ _ l1_1 t433 t434 _ ?side1 ?side2 A61.out).mono ?_
                        (case side1 => exact Kd.V_mk HC0_1.out (Kd.F_below (Kd.C_F k39_heap HR0_1.out) (by repeat (first | (with_reducible first | exact HB.out | apply below_alloc | apply pw_below_drewN | apply below_drew1 | refine below_set ?_ GE417.out | refine below_set ?_ GE418.out | refine below_set ?_ GE428.out) | exact HB.out))))
                        (case side2 => exact Kd.V_mk HC1_1.out (Kd.F_below (Kd.C_F k39_heap HR1_1.out) (by repeat (first | (with_reducible first | exact HB.out | apply below_alloc | apply pw_below_drewN | apply below_drew1 | refine below_set ?_ GE417.out | refine below_set ?_ GE418.out | refine below_set ?_ GE428.out) | exact HB.out))))
                        rintro e w66 ⟨v435, rfl, ho0, hb⟩
                        refine ⟨_, rfl, ?_⟩
                        have n0_ := Aside0.mk (Kd.N_elder' (by (with_reducible repeat (first | apply Kd.N_alloc | apply Kd.N_drewN | apply Kd.N_drew)); exact HO_429001.out) (Kd.N_base ho0) hb)
                        have n1_ := Aside0.mk (Kd.N_lower (Kd.N_mono (ok' := fun k_ => some k_ ≠ (.slice Ao37 t425.length co37 : Value).ownBlock ∧ k_ ≠ gb417 ∧ k_ ≠ gb418 ∧ k_ ≠ gb428) ho0 (fun k_ hk_ => ⟨Or.elim hk_ (fun hs_ => Or.elim hs_ (fun hs_ => fun e_ => Nat.not_le.2 hs_ (Kd.N_base HO_429001.out k_ e_.symm)) (fun hs_ => fun e_ => Nat.not_le.2 hs_ (Kd.N_base HO_429001.out k_ e_.symm))) (fun hn_ => (Kd.fresh' (Kd.N_lt (by (with_reducible repeat (first | apply Kd.N_alloc | apply Kd.N_drewN | apply Kd.N_drew)); exact HO_429001.out)) k_ hn_)), Or.elim hk_ (fun hs_ => Or.elim hs_ (fun hs_ => fun e_ => Nat.not_le.2 hs_ (by rw [e_]; exact GW417.out)) (fun hs_ => fun e_ => Nat.not_le.2 hs_ (by rw [e_]; exact GW417.out))) (fun hn_ => (Kd.freshB (g := gb417) (o := .cells #[.int .i64 a0_0, .slice A0_1 l0_1.length c0_1] 39 (0, 0)) (by (with_reducible repeat (first | refine blk_drewN ?_ _ | refine blk_drew ?_ | refine blk_alloc ?_ _)); exact BK417.out) k_ hn_)), Or.elim hk_ (fun hs_ => Or.elim hs_ (fun hs_ => fun e_ => Nat.not_le.2 hs_ (by rw [e_]; exact GW418.out)) (fun hs_ => fun e_ => Nat.not_le.2 hs_ (by rw [e_]; exact GW418.out))) (fun hn_ => (Kd.freshB (g := gb418) (o := .cells #[.int .i64 a1_0, .slice A1_1 l1_1.length c1_1] 39 (0, 0)) (by (with_reducible repeat (first | refine blk_drewN ?_ _ | refine blk_drew ?_ | refine blk_alloc ?_ _)); exact BK418.out) k_ hn_)), Or.elim hk_ (fun hs_ => Or.elim hs_ (fun hs_ => fun e_ => Nat.not_le.2 hs_ (by rw [e_]; exact GW428.out)) (fun hs_ => fun e_ => Nat.not_le.2 hs_ (by rw [e_]; exact GW428.out))) (fun hn_ => (Kd.freshB (g := gb428) (o := .cells #[.int .i64 t424, .slice Ao37 t425.length co37] 39 (0, 0)) (by (with_reducible repeat (first | refine blk_drewN ?_ _ | refine blk_drew ?_ | refine blk_alloc ?_ _)); exact BK428.out) k_ hn_))⟩)) (below_size (by repeat (first | (with_reducible first | exact HB.out | apply below_alloc | apply pw_below_drewN | apply below_drew1 | refine below_set ?_ GE417.out | refine below_set ?_ GE418.out | refine below_set ?_ GE428.out) | exact HB.out))))
                        have n2_ := Aside0.mk (blk_below (g := gb417) (o := .cells #[.int .i64 a0_0, .slice A0_1 l0_1.length c0_1] 39 (0, 0)) (by (with_reducible repeat (first | refine blk_drewN ?_ _ | refine blk_drew ?_ | refine blk_alloc ?_ _)); exact BK417.out) hb)
                        have n3_ := Aside0.mk (blk_below (g := gb418) (o := .cells #[.int .i64 a1_0, .slice A1_1 l1_1.length c1_1] 39 (0, 0)) (by (with_reducible repeat (first | refine blk_drewN ?_ _ | refine blk_drew ?_ | refine blk_alloc ?_ _)); exact BK418.out) hb)
                        have n4_ := Aside0.mk (blk_below (g := gb428) (o := .cells #[.int .i64 t424, .slice Ao37 t425.length co37] 39 (0, 0)) (by (with_reducible repeat (first | refine blk_drewN ?_ _ | refine blk_drew ?_ | refine blk_alloc ?_ _)); exact BK428.out) hb)
                        have n5_ := Aside0.mk (below_step (by repeat (first | (with_reducible first | exact HB.out | apply below_alloc | apply pw_below_drewN | apply below_drew1 | refine below_set ?_ GE417.out | refine below_set ?_ GE418.out | refine below_set ?_ GE428.out) | exact HB.out)) hb)
                        clear HO_429001
                        clear BK417
                        clear BK418
                        clear BK428
                        clear HB
                        have HO_429001 := n0_
                        have HO436 := n1_
                        have BK417 := n2_
                        have BK418 := n3_
                        have BK428 := n4_
                        have HB := n5_
                        clear n0_ n1_ n2_ n3_ n4_ n5_
                        (try clear hb)
                        (try clear hb2)
                        (try clear hk)
                        (try clear hi)
                        (try clear ho0)
                        obtain ⟨Ao67, co67, eo67⟩ := Kd.N_slice HO436.out
                        (first | subst eo67 | (injection eo67 with f1_ f2_ f3_; have f4_ := f1_.symm; have f5_ := f3_.symm; clear f1_ f2_ f3_; subst f4_; subst f5_))
                        refine hK.out _ _ ⟨(blk_cell BK428.out 0).trans rfl, (blk_cell BK428.out 1).trans rfl, (blk_cell BK417.out 0).trans rfl, (blk_cell BK417.out 1).trans rfl, (blk_cell BK418.out 0).trans rfl, (blk_cell BK418.out 1).trans rfl⟩ (fun hHeld => ?_)
                        clear hK K
                        refine norm_ (a' := ?_) ?_ ?_
                        rotate_left
                        · show Act.put _ (some 75) _ = _
                          simp only [Act.put, List.setIfInBounds_toArray, List.set_cons_zero, List.set_cons_succ, i64_w, i32_w]
                          rfl
                        refine one_ (i := 21) (N := some 76) #[true, true, true, true, true, true, true, true, true, true, true, true, true, true, true, true, true, true, true, true, true, true, false, false] rfl rfl (one_of HT_.out (by kernel_rfl)) (by decide) (fun K hK => ?_)
                        refine goes_ Try.func39 (by kernel_rfl) rfl #[.agg #[.int .i64 t424, .slice Ao37 t425.length co37], .agg #[.int .i64 t433, .slice Ao67 t434.length co67]] (by rfl) rfl rfl (by (try simp only [List.map_toArray, List.map_cons, List.map_nil]); first | done | rfl | (simp only [List.length_drop, List.length_take]; rfl)) ?_
                        with_reducible refine (tree_Same.calls kj52 t424 _ _ t425 t433 _ _ t434 t437 _ ?side1 ?side2 ?side3 ?side4 A62.out).mono ?_
                        (case side1 => repeat (first | exact (Kd.N_reads' HO_429001.out).2.2 | (with_reducible refine Kd.C_alloc ?_ _) | (with_reducible refine Kd.C_drewN ?_ _) | (with_reducible refine Kd.C_drew ?_)))
                        (case side2 => exact (Kd.N_reads' HO_429001.out).2.1)
                        (case side3 => repeat (first | exact (Kd.N_reads' HO436.out).2.2 | (with_reducible refine Kd.C_alloc ?_ _) | (with_reducible refine Kd.C_drewN ?_ _) | (with_reducible refine Kd.C_drew ?_)))
                        (case side4 => exact (Kd.N_reads' HO436.out).2.1)
                        rintro e w68 ⟨rfl, hb⟩
                        refine ⟨_, rfl, ?_⟩
                        have n0_ := Aside0.mk (Kd.N_below (by (with_reducible repeat (first | apply Kd.N_alloc | apply Kd.N_drewN | apply Kd.N_drew)); exact HO_429001.out) hb)
                        have n1_ := Aside0.mk (Kd.N_below (by (with_reducible repeat (first | apply Kd.N_alloc | apply Kd.N_drewN | apply Kd.N_drew)); exact HO436.out) hb)
                        have n2_ := Aside0.mk (blk_below (g := gb417) (o := .cells #[.int .i64 a0_0, .slice A0_1 l0_1.length c0_1] 39 (0, 0)) (by (with_reducible repeat (first | refine blk_drewN ?_ _ | refine blk_drew ?_ | refine blk_alloc ?_ _)); exact BK417.out) hb)
                        have n3_ := Aside0.mk (blk_below (g := gb418) (o := .cells #[.int .i64 a1_0, .slice A1_1 l1_1.length c1_1] 39 (0, 0)) (by (with_reducible repeat (first | refine blk_drewN ?_ _ | refine blk_drew ?_ | refine blk_alloc ?_ _)); exact BK418.out) hb)
                        have n4_ := Aside0.mk (blk_below (g := gb428) (o := .cells #[.int .i64 t424, .slice Ao37 t425.length co37] 39 (0, 0)) (by (with_reducible repeat (first | refine blk_drewN ?_ _ | refine blk_drew ?_ | refine blk_alloc ?_ _)); exact BK428.out) hb)
                        have n5_ := Aside0.mk (below_step (by repeat (first | (with_reducible first | exact HB.out | apply below_alloc | apply pw_below_drewN | apply below_drew1 | refine below_set ?_ GE417.out | refine below_set ?_ GE418.out | refine below_set ?_ GE428.out) | exact HB.out)) hb)
                        clear HO_429001
                        clear HO436
                        clear BK417
                        clear BK418
                        clear BK428
                        clear HB
                        have HO_429001 := n0_
                        have HO436 := n1_
                        have BK417 := n2_
                        have BK418 := n3_
                        have BK428 := n4_
                        have HB := n5_
                        clear n0_ n1_ n2_ n3_ n4_ n5_
                        (try clear hb)
                        (try clear hb2)
                        (try clear hk)
                        (try clear hi)
                        refine hK.out _ _ ⟨(blk_cell BK428.out 0).trans rfl, (blk_cell BK428.out 1).trans rfl, (blk_cell BK417.out 0).trans rfl, (blk_cell BK417.out 1).trans rfl, (blk_cell BK418.out 0).trans rfl, (blk_cell BK418.out 1).trans rfl⟩ (fun hHeld => ?_)
                        clear hK K
                        refine norm_ (a' := ?_) ?_ ?_
                        rotate_left
                        · show Act.put _ (some 76) _ = _
                          simp only [Act.put, List.setIfInBounds_toArray, List.set_cons_zero, List.set_cons_succ, i64_w, i32_w]
                          rfl
                        refine pure_ (i := 22) (N := some 77) (v := ?_) (a' := ?_) #[true, true, true, true, true, true, true, true, true, true, true, true, true, true, true, true, true, true, true, true, true, true, true, false] rfl rfl (any_of HT_.out (by kernel_rfl)) (fun _ _ _ h => h) (Or.inl ⟨by rfl, ?_⟩) ?_ ?_
                        rotate_left
                        · intro w'
                          go_simp
                          with_reducible rfl
                        rotate_left
                        · simp only [Act.put, List.setIfInBounds_toArray, List.set_cons_zero, List.set_cons_succ, i64_w, i32_w]
                          rfl
                        refine pure_ (i := 23) (N := some 4) (v := ?_) (a' := ?_) #[true, true, true, true, true, true, true, true, true, true, true, true, true, true, true, true, true, true, true, true, true, true, true, true] rfl rfl (any_of HT_.out (by kernel_rfl)) (fun _ _ _ h => h) (Or.inl ⟨by rfl, ?_⟩) ?_ ?_
                        rotate_left
                        · intro w'
                          go_simp
                          with_reducible rfl
                        rotate_left
                        · simp only [Act.put, List.setIfInBounds_toArray, List.set_cons_zero, List.set_cons_succ, i64_w, i32_w]
                          rfl
                        refine done_ (done_of HT_.out (by kernel_rfl)) ?_
                        try go_wp2
                        go_ret
                        exact ⟨by first | rfl | (simp [errW_none, errW_some] <;> rfl) | (simp [*, errW_none, errW_some] <;> rfl) | (clear HB; simp only [aside0_iff] at *; simp_all; done), by repeat (first | (with_reducible first | exact HB.out | apply below_alloc | apply pw_below_drewN | apply below_drew1 | refine below_set ?_ GE417.out | refine below_set ?_ GE418.out | refine below_set ?_ GE428.out) | exact HB.out)⟩
                      · rw [if_neg c60] at H
                        have c60b0 : (t432 == (Go.bits .or .i64 t422 t423)) = false := beq_eq_false_iff_ne.mpr c60
                        have c60b1 : (t432 != (Go.bits .or .i64 t422 t423)) = true := bne_iff_ne.mpr c60
                        exact absurd H (by simp)
                    · replace c58 := Bool.eq_false_iff.mpr c58
                      subst c58
                      have H1 : ((tree_Join.f a0_0 l0_1 a1_0 l1_1).bind fun bt438 => ((tree_Same.f kj52 t424 t425 bt438.1 bt438.2).bind fun t442 => (some t442))) = some r := by rw [if_neg (show ¬ (false = true) by decide)] at H; exact H
                      clear H
                      have H := H1
                      clear H1
                      replace H := Option.bind_eq_some_iff.mp H
                      obtain ⟨⟨t438, t439⟩, A690, H⟩ := H
                      replace H : ((tree_Same.f kj52 t424 t425 t438 t439).bind fun t442 => (some t442)) = some r := H
                      have A69 := Aside0.mk A690
                      clear A690
                      replace H := Option.bind_eq_some_iff.mp H
                      obtain ⟨t442, A700, H⟩ := H
                      replace H : (some t442) = some r := H
                      have A70 := Aside0.mk A700
                      clear A700
                      obtain rfl := Option.some.inj H
                      try go_wp2
                      have n0_ := Aside0.mk (Kd.N_drew HO_429001.out)
                      have n1_ := Aside0.mk (blk_drew BK417.out)
                      have n2_ := Aside0.mk (blk_drew BK418.out)
                      have n3_ := Aside0.mk (blk_drew BK428.out)
                      have n4_ := Aside0.mk (below_drew1 HB.out)
                      clear HO_429001
                      clear BK417
                      clear BK418
                      clear BK428
                      clear HB
                      have HO_429001 := n0_
                      have BK417 := n1_
                      have BK418 := n2_
                      have BK428 := n3_
                      have HB := n4_
                      clear n0_ n1_ n2_ n3_ n4_
                      refine start_ (n := 24) (S := fun w' => w'.cell? ⟨gb428, 0, none⟩ = some (.int .i64 t424) ∧ w'.cell? ⟨gb428, 1, none⟩ = some (.slice Ao37 t425.length co37) ∧ w'.cell? ⟨gb417, 0, none⟩ = some (.int .i64 a0_0) ∧ w'.cell? ⟨gb417, 1, none⟩ = some (.slice A0_1 l0_1.length c0_1) ∧ w'.cell? ⟨gb418, 0, none⟩ = some (.int .i64 a1_0) ∧ w'.cell? ⟨gb418, 1, none⟩ = some (.slice A1_1 l1_1.length c1_1)) (ds := []) #[false, false, false, false, false, false, false, false, false, false, false, false, false, false, false, false, false, false, false, false, false, false, false, false] (by kernel_rfl) rfl rfl ⟨(blk_cell BK428.out 0).trans rfl, (blk_cell BK428.out 1).trans rfl, (blk_cell BK417.out 0).trans rfl, (blk_cell BK417.out 1).trans rfl, (blk_cell BK418.out 0).trans rfl, (blk_cell BK418.out 1).trans rfl⟩ (fun hHeld => ?_); refine with_tabW roadbooklaw06_TreeJoin.tab10 roadbooklaw06_TreeJoin.bits10 (fun HT_ HW_ => ?_)
                      generalize wc.drew = w71 at HO_429001 BK417 BK418 BK428 HB hHeld ⊢
                      refine pure_ (i := 2) (N := some 57) (v := ?_) (a' := ?_) #[false, false, true, false, false, false, false, false, false, false, false, false, false, false, false, false, false, false, false, false, false, false, false, false] rfl rfl (any_of HT_.out (by kernel_rfl)) (fun _ _ _ h => h) (Or.inl ⟨by rfl, ?_⟩) ?_ ?_
                      rotate_left
                      · intro w'
                        go_simp
                        with_reducible rfl
                      rotate_left
                      · simp only [Act.put, List.setIfInBounds_toArray, List.set_cons_zero, List.set_cons_succ, i64_w, i32_w]
                        rfl
                      refine take_ (i := 0) (N := some 55) (v := ?_) (a' := ?_) #[true, false, true, false, false, false, false, false, false, false, false, false, false, false, false, false, false, false, false, false, false, false, false, false] rfl rfl (take_ofW HT_.out HW_.out (by kernel_rfl)) (fun _ _ _ h => h) (Or.inl ⟨by rfl, ?_⟩) hHeld ?_ ?_
                      rotate_left
                      · rintro w' ⟨s0, s1, s2, s3, s4, s5⟩
                        go_simp
                        with_reducible rfl
                      rotate_left
                      · simp only [Act.put, List.setIfInBounds_toArray, List.set_cons_zero, List.set_cons_succ, i64_w, i32_w]
                        rfl
                      refine one_ (i := 1) (N := some 56) #[true, true, true, false, false, false, false, false, false, false, false, false, false, false, false, false, false, false, false, false, false, false, false, false] rfl rfl (one_of HT_.out (by kernel_rfl)) (by decide) (fun K hK => ?_)
                      refine goes_ Try.func33 (by kernel_rfl) rfl #[.agg #[.int .i64 t424, .slice Ao37 t425.length co37]] (by rfl) rfl rfl (by (try simp only [List.map_toArray, List.map_cons, List.map_nil]); first | done | rfl | (simp only [List.length_drop, List.length_take]; rfl)) ?_
                      with_reducible refine (tree_May.calls kj52 t424 _ _ t425 t431 _ ?side1 ?side2 A56.out).mono ?_
                      (case side1 => repeat (first | exact (Kd.N_reads' HO_429001.out).2.2 | (with_reducible refine Kd.C_alloc ?_ _) | (with_reducible refine Kd.C_drewN ?_ _) | (with_reducible refine Kd.C_drew ?_)))
                      (case side2 => exact (Kd.N_reads' HO_429001.out).2.1)
                      rintro e w72 ⟨rfl, hb⟩
                      refine ⟨_, rfl, ?_⟩
                      have n0_ := Aside0.mk (Kd.N_below (by (with_reducible repeat (first | apply Kd.N_alloc | apply Kd.N_drewN | apply Kd.N_drew)); exact HO_429001.out) hb)
                      have n1_ := Aside0.mk (blk_below (g := gb417) (o := .cells #[.int .i64 a0_0, .slice A0_1 l0_1.length c0_1] 39 (0, 0)) (by (with_reducible repeat (first | refine blk_drewN ?_ _ | refine blk_drew ?_ | refine blk_alloc ?_ _)); exact BK417.out) hb)
                      have n2_ := Aside0.mk (blk_below (g := gb418) (o := .cells #[.int .i64 a1_0, .slice A1_1 l1_1.length c1_1] 39 (0, 0)) (by (with_reducible repeat (first | refine blk_drewN ?_ _ | refine blk_drew ?_ | refine blk_alloc ?_ _)); exact BK418.out) hb)
                      have n3_ := Aside0.mk (blk_below (g := gb428) (o := .cells #[.int .i64 t424, .slice Ao37 t425.length co37] 39 (0, 0)) (by (with_reducible repeat (first | refine blk_drewN ?_ _ | refine blk_drew ?_ | refine blk_alloc ?_ _)); exact BK428.out) hb)
                      have n4_ := Aside0.mk (below_step (by repeat (first | (with_reducible first | exact HB.out | apply below_alloc | apply pw_below_drewN | apply below_drew1 | refine below_set ?_ GE417.out | refine below_set ?_ GE418.out | refine below_set ?_ GE428.out) | exact HB.out)) hb)
                      clear HO_429001
                      clear BK417
                      clear BK418
                      clear BK428
                      clear HB
                      have HO_429001 := n0_
                      have BK417 := n1_
                      have BK418 := n2_
                      have BK428 := n3_
                      have HB := n4_
                      clear n0_ n1_ n2_ n3_ n4_
                      (try clear hb)
                      (try clear hb2)
                      (try clear hk)
                      (try clear hi)
                      refine hK.out _ _ ⟨(blk_cell BK428.out 0).trans rfl, (blk_cell BK428.out 1).trans rfl, (blk_cell BK417.out 0).trans rfl, (blk_cell BK417.out 1).trans rfl, (blk_cell BK418.out 0).trans rfl, (blk_cell BK418.out 1).trans rfl⟩ (fun hHeld => ?_)
                      clear hK K
                      refine norm_ (a' := ?_) ?_ ?_
                      rotate_left
                      · show Act.put _ (some 56) _ = _
                        simp only [Act.put, List.setIfInBounds_toArray, List.set_cons_zero, List.set_cons_succ, i64_w, i32_w]
                        rfl
                      refine pure_ (i := 3) (N := some 58) (v := ?_) (a' := ?_) #[true, true, true, true, false, false, false, false, false, false, false, false, false, false, false, false, false, false, false, false, false, false, false, false] rfl rfl (any_of HT_.out (by kernel_rfl)) (fun _ _ _ h => h) (Or.inl ⟨by rfl, ?_⟩) ?_ ?_
                      rotate_left
                      · intro w'
                        go_simp
                        with_reducible rfl
                      rotate_left
                      · simp only [Act.put, List.setIfInBounds_toArray, List.set_cons_zero, List.set_cons_succ, i64_w, i32_w]
                        rfl
                      refine pure_ (i := 4) (N := some 59) (v := ?_) (a' := ?_) #[true, true, true, true, true, false, false, false, false, false, false, false, false, false, false, false, false, false, false, false, false, false, false, false] rfl rfl (any_of HT_.out (by kernel_rfl)) (fun _ _ _ h => h) (Or.inl ⟨by rfl, ?_⟩) ?_ ?_
                      rotate_left
                      · intro w'
                        go_simp
                        with_reducible rfl
                      rotate_left
                      · simp only [Act.put, List.setIfInBounds_toArray, List.set_cons_zero, List.set_cons_succ, i64_w, i32_w]
                        rfl
                      refine pure_ (i := 5) (N := some 60) (v := ?_) (a' := ?_) #[true, true, true, true, true, true, false, false, false, false, false, false, false, false, false, false, false, false, false, false, false, false, false, false] rfl rfl (any_of HT_.out (by kernel_rfl)) (fun _ _ _ h => h) (Or.inl ⟨by rfl, ?_⟩) ?_ ?_
                      rotate_left
                      · intro w'
                        go_simp
                        with_reducible rfl
                      rotate_left
                      · simp only [Act.put, List.setIfInBounds_toArray, List.set_cons_zero, List.set_cons_succ, i64_w, i32_w]
                        rfl
                      refine pure_ (i := 6) (N := some 61) (v := ?_) (a' := ?_) #[true, true, true, true, true, true, true, false, false, false, false, false, false, false, false, false, false, false, false, false, false, false, false, false] rfl rfl (any_of HT_.out (by kernel_rfl)) (fun _ _ _ h => h) (Or.inl ⟨by rfl, ?_⟩) ?_ ?_
                      rotate_left
                      · intro w'
                        go_simp
                        with_reducible rfl
                      rotate_left
                      · simp only [Act.put, List.setIfInBounds_toArray, List.set_cons_zero, List.set_cons_succ, i64_w, i32_w]
                        rfl
                      refine pure_ (i := 7) (N := some 62) (v := ?_) (a' := ?_) #[true, true, true, true, true, true, true, true, false, false, false, false, false, false, false, false, false, false, false, false, false, false, false, false] rfl rfl (any_of HT_.out (by kernel_rfl)) (fun _ _ _ h => h) (Or.inl ⟨by rfl, ?_⟩) ?_ ?_
                      rotate_left
                      · intro w'
                        go_simp
                        with_reducible rfl
                      rotate_left
                      · simp only [Act.put, List.setIfInBounds_toArray, List.set_cons_zero, List.set_cons_succ, i64_w, i32_w]
                        rfl
                      refine pure_ (i := 8) (N := some 63) (v := undef) (a' := ?_) #[true, true, true, true, true, true, true, true, true, false, false, false, false, false, false, false, false, false, false, false, false, false, false, false] rfl rfl (any_of HT_.out (by kernel_rfl)) (fun _ _ _ h => h) (Or.inr ⟨by rfl, rfl⟩) ?_ ?_
                      rotate_left
                      · simp only [Act.put, List.setIfInBounds_toArray, List.set_cons_zero, List.set_cons_succ, i64_w, i32_w]
                        rfl
                      refine pure_ (i := 9) (N := some 64) (v := undef) (a' := ?_) #[true, true, true, true, true, true, true, true, true, true, false, false, false, false, false, false, false, false, false, false, false, false, false, false] rfl rfl (any_of HT_.out (by kernel_rfl)) (fun _ _ _ h => h) (Or.inr ⟨by rfl, rfl⟩) ?_ ?_
                      rotate_left
                      · simp only [Act.put, List.setIfInBounds_toArray, List.set_cons_zero, List.set_cons_succ, i64_w, i32_w]
                        rfl
                      refine pure_ (i := 10) (N := some 65) (v := undef) (a' := ?_) #[true, true, true, true, true, true, true, true, true, true, true, false, false, false, false, false, false, false, false, false, false, false, false, false] rfl rfl (any_of HT_.out (by kernel_rfl)) (fun _ _ _ h => h) (Or.inr ⟨by rfl, rfl⟩) ?_ ?_
                      rotate_left
                      · simp only [Act.put, List.setIfInBounds_toArray, List.set_cons_zero, List.set_cons_succ, i64_w, i32_w]
                        rfl
                      refine pure_ (i := 11) (N := some 66) (v := undef) (a' := ?_) #[true, true, true, true, true, true, true, true, true, true, true, true, false, false, false, false, false, false, false, false, false, false, false, false] rfl rfl (any_of HT_.out (by kernel_rfl)) (fun _ _ _ h => h) (Or.inr ⟨by rfl, rfl⟩) ?_ ?_
                      rotate_left
                      · simp only [Act.put, List.setIfInBounds_toArray, List.set_cons_zero, List.set_cons_succ, i64_w, i32_w]
                        rfl
                      refine pure_ (i := 12) (N := some 67) (v := undef) (a' := ?_) #[true, true, true, true, true, true, true, true, true, true, true, true, true, false, false, false, false, false, false, false, false, false, false, false] rfl rfl (any_of HT_.out (by kernel_rfl)) (fun _ _ _ h => h) (Or.inr ⟨by rfl, rfl⟩) ?_ ?_
                      rotate_left
                      · simp only [Act.put, List.setIfInBounds_toArray, List.set_cons_zero, List.set_cons_succ, i64_w, i32_w]
                        rfl
                      refine pure_ (i := 13) (N := some 68) (v := undef) (a' := ?_) #[true, true, true, true, true, true, true, true, true, true, true, true, true, true, false, false, false, false, false, false, false, false, false, false] rfl rfl (any_of HT_.out (by kernel_rfl)) (fun _ _ _ h => h) (Or.inr ⟨by rfl, rfl⟩) ?_ ?_
                      rotate_left
                      · simp only [Act.put, List.setIfInBounds_toArray, List.set_cons_zero, List.set_cons_succ, i64_w, i32_w]
                        rfl
                      refine pure_ (i := 14) (N := some 69) (v := ?_) (a' := ?_) #[true, true, true, true, true, true, true, true, true, true, true, true, true, true, true, false, false, false, false, false, false, false, false, false] rfl rfl (any_of HT_.out (by kernel_rfl)) (fun _ _ _ h => h) (Or.inl ⟨by rfl, ?_⟩) ?_ ?_
                      rotate_left
                      · intro w'
                        go_simp
                        with_reducible rfl
                      rotate_left
                      · simp only [Act.put, List.setIfInBounds_toArray, List.set_cons_zero, List.set_cons_succ, i64_w, i32_w]
                        rfl
                      refine pure_ (i := 15) (N := some 70) (v := ?_) (a' := ?_) #[true, true, true, true, true, true, true, true, true, true, true, true, true, true, true, true, false, false, false, false, false, false, false, false] rfl rfl (any_of HT_.out (by kernel_rfl)) (fun _ _ _ h => h) (Or.inl ⟨by rfl, ?_⟩) ?_ ?_
                      rotate_left
                      · intro w'
                        go_simp
                        with_reducible rfl
                      rotate_left
                      · simp only [Act.put, List.setIfInBounds_toArray, List.set_cons_zero, List.set_cons_succ, i64_w, i32_w]
                        rfl
                      refine pure_ (i := 16) (N := some 71) (v := ?_) (a' := ?_) #[true, true, true, true, true, true, true, true, true, true, true, true, true, true, true, true, true, false, false, false, false, false, false, false] rfl rfl (any_of HT_.out (by kernel_rfl)) (fun _ _ _ h => h) (Or.inl ⟨by rfl, ?_⟩) ?_ ?_
                      rotate_left
                      · intro w'
                        go_simp
                        with_reducible rfl
                      rotate_left
                      · simp only [Act.put, List.setIfInBounds_toArray, List.set_cons_zero, List.set_cons_succ, i64_w, i32_w]
                        rfl
                      refine take_ (i := 17) (N := some 72) (v := ?_) (a' := ?_) #[true, true, true, true, true, true, true, true, true, true, true, true, true, true, true, true, true, true, false, false, false, false, false, false] rfl rfl (take_ofW HT_.out HW_.out (by kernel_rfl)) (fun _ _ _ h => h) (Or.inl ⟨by rfl, ?_⟩) hHeld ?_ ?_
                      rotate_left
                      · rintro w' ⟨s0, s1, s2, s3, s4, s5⟩
                        go_simp
                        with_reducible rfl
                      rotate_left
                      · simp only [Act.put, List.setIfInBounds_toArray, List.set_cons_zero, List.set_cons_succ, i64_w, i32_w]
                        rfl
                      refine take_ (i := 18) (N := some 73) (v := ?_) (a' := ?_) #[true, true, true, true, true, true, true, true, true, true, true, true, true, true, true, true, true, true, true, false, false, false, false, false] rfl rfl (take_ofW HT_.out HW_.out (by kernel_rfl)) (fun _ _ _ h => h) (Or.inl ⟨by rfl, ?_⟩) hHeld ?_ ?_
                      rotate_left
                      · rintro w' ⟨s0, s1, s2, s3, s4, s5⟩
                        go_simp
                        with_reducible rfl
                      rotate_left
                      · simp only [Act.put, List.setIfInBounds_toArray, List.set_cons_zero, List.set_cons_succ, i64_w, i32_w]
                        rfl
                      refine take_ (i := 19) (N := some 74) (v := ?_) (a' := ?_) #[true, true, true, true, true, true, true, true, true, true, true, true, true, true, true, true, true, true, true, true, false, false, false, false] rfl rfl (take_ofW HT_.out HW_.out (by kernel_rfl)) (fun _ _ _ h => h) (Or.inl ⟨by rfl, ?_⟩) hHeld ?_ ?_
                      rotate_left
                      · rintro w' ⟨s0, s1, s2, s3, s4, s5⟩
                        go_simp
                        with_reducible rfl
                      rotate_left
                      · simp only [Act.put, List.setIfInBounds_toArray, List.set_cons_zero, List.set_cons_succ, i64_w, i32_w]
                        rfl
                      refine one_ (i := 20) (N := some 75) #[true, true, true, true, true, true, true, true, true, true, true, true, true, true, true, true, true, true, true, true, true, false, false, false] rfl rfl (one_of HT_.out (by kernel_rfl)) (by decide) (fun K hK => ?_)
                      refine goes_ Try.func44 (by kernel_rfl) rfl #[.agg #[.int .i64 a0_0, .slice A0_1 l0_1.length c0_1], .agg #[.int .i64 a1_0, .slice A1_1 l1_1.length c1_1]] (by rfl) rfl rfl (by (try simp only [List.map_toArray, List.map_cons, List.map_nil]); first | done | rfl | (simp only [List.length_drop, List.length_take]; rfl)) ?_
                      with_reducible refine (tree_Join.calls a0_0 (fun k_ => k_ < w.heap.size) _ _ l0_1 a1_0 (fun k_ => k_ < w.heap.size) _ _ l1_1 t438 t439 _ ?side1 ?side2 A69.out).mono ?_
                      (case side1 => exact Kd.V_mk HC0_1.out (Kd.F_below (Kd.C_F k39_heap HR0_1.out) (by repeat (first | (with_reducible first | exact HB.out | apply below_alloc | apply pw_below_drewN | apply below_drew1 | refine below_set ?_ GE417.out | refine below_set ?_ GE418.out | refine below_set ?_ GE428.out) | exact HB.out))))
                      (case side2 => exact Kd.V_mk HC1_1.out (Kd.F_below (Kd.C_F k39_heap HR1_1.out) (by repeat (first | (with_reducible first | exact HB.out | apply below_alloc | apply pw_below_drewN | apply below_drew1 | refine below_set ?_ GE417.out | refine below_set ?_ GE418.out | refine below_set ?_ GE428.out) | exact HB.out))))
                      rintro e w73 ⟨v440, rfl, ho0, hb⟩
                      refine ⟨_, rfl, ?_⟩
                      have n0_ := Aside0.mk (Kd.N_elder' (by (with_reducible repeat (first | apply Kd.N_alloc | apply Kd.N_drewN | apply Kd.N_drew)); exact HO_429001.out) (Kd.N_base ho0) hb)
                      have n1_ := Aside0.mk (Kd.N_lower (Kd.N_mono (ok' := fun k_ => some k_ ≠ (.slice Ao37 t425.length co37 : Value).ownBlock ∧ k_ ≠ gb417 ∧ k_ ≠ gb418 ∧ k_ ≠ gb428) ho0 (fun k_ hk_ => ⟨Or.elim hk_ (fun hs_ => Or.elim hs_ (fun hs_ => fun e_ => Nat.not_le.2 hs_ (Kd.N_base HO_429001.out k_ e_.symm)) (fun hs_ => fun e_ => Nat.not_le.2 hs_ (Kd.N_base HO_429001.out k_ e_.symm))) (fun hn_ => (Kd.fresh' (Kd.N_lt (by (with_reducible repeat (first | apply Kd.N_alloc | apply Kd.N_drewN | apply Kd.N_drew)); exact HO_429001.out)) k_ hn_)), Or.elim hk_ (fun hs_ => Or.elim hs_ (fun hs_ => fun e_ => Nat.not_le.2 hs_ (by rw [e_]; exact GW417.out)) (fun hs_ => fun e_ => Nat.not_le.2 hs_ (by rw [e_]; exact GW417.out))) (fun hn_ => (Kd.freshB (g := gb417) (o := .cells #[.int .i64 a0_0, .slice A0_1 l0_1.length c0_1] 39 (0, 0)) (by (with_reducible repeat (first | refine blk_drewN ?_ _ | refine blk_drew ?_ | refine blk_alloc ?_ _)); exact BK417.out) k_ hn_)), Or.elim hk_ (fun hs_ => Or.elim hs_ (fun hs_ => fun e_ => Nat.not_le.2 hs_ (by rw [e_]; exact GW418.out)) (fun hs_ => fun e_ => Nat.not_le.2 hs_ (by rw [e_]; exact GW418.out))) (fun hn_ => (Kd.freshB (g := gb418) (o := .cells #[.int .i64 a1_0, .slice A1_1 l1_1.length c1_1] 39 (0, 0)) (by (with_reducible repeat (first | refine blk_drewN ?_ _ | refine blk_drew ?_ | refine blk_alloc ?_ _)); exact BK418.out) k_ hn_)), Or.elim hk_ (fun hs_ => Or.elim hs_ (fun hs_ => fun e_ => Nat.not_le.2 hs_ (by rw [e_]; exact GW428.out)) (fun hs_ => fun e_ => Nat.not_le.2 hs_ (by rw [e_]; exact GW428.out))) (fun hn_ => (Kd.freshB (g := gb428) (o := .cells #[.int .i64 t424, .slice Ao37 t425.length co37] 39 (0, 0)) (by (with_reducible repeat (first | refine blk_drewN ?_ _ | refine blk_drew ?_ | refine blk_alloc ?_ _)); exact BK428.out) k_ hn_))⟩)) (below_size (by repeat (first | (with_reducible first | exact HB.out | apply below_alloc | apply pw_below_drewN | apply below_drew1 | refine below_set ?_ GE417.out | refine below_set ?_ GE418.out | refine below_set ?_ GE428.out) | exact HB.out))))
                      have n2_ := Aside0.mk (blk_below (g := gb417) (o := .cells #[.int .i64 a0_0, .slice A0_1 l0_1.length c0_1] 39 (0, 0)) (by (with_reducible repeat (first | refine blk_drewN ?_ _ | refine blk_drew ?_ | refine blk_alloc ?_ _)); exact BK417.out) hb)
                      have n3_ := Aside0.mk (blk_below (g := gb418) (o := .cells #[.int .i64 a1_0, .slice A1_1 l1_1.length c1_1] 39 (0, 0)) (by (with_reducible repeat (first | refine blk_drewN ?_ _ | refine blk_drew ?_ | refine blk_alloc ?_ _)); exact BK418.out) hb)
                      have n4_ := Aside0.mk (blk_below (g := gb428) (o := .cells #[.int .i64 t424, .slice Ao37 t425.length co37] 39 (0, 0)) (by (with_reducible repeat (first | refine blk_drewN ?_ _ | refine blk_drew ?_ | refine blk_alloc ?_ _)); exact BK428.out) hb)
                      have n5_ := Aside0.mk (below_step (by repeat (first | (with_reducible first | exact HB.out | apply below_alloc | apply pw_below_drewN | apply below_drew1 | refine below_set ?_ GE417.out | refine below_set ?_ GE418.out | refine below_set ?_ GE428.out) | exact HB.out)) hb)
                      clear HO_429001
                      clear BK417
                      clear BK418
                      clear BK428
                      clear HB
                      have HO_429001 := n0_
                      have HO441 := n1_
                      have BK417 := n2_
                      have BK418 := n3_
                      have BK428 := n4_
                      have HB := n5_
                      clear n0_ n1_ n2_ n3_ n4_ n5_
                      (try clear hb)
                      (try clear hb2)
                      (try clear hk)
                      (try clear hi)
                      (try clear ho0)
                      obtain ⟨Ao74, co74, eo74⟩ := Kd.N_slice HO441.out
                      (first | subst eo74 | (injection eo74 with f1_ f2_ f3_; have f4_ := f1_.symm; have f5_ := f3_.symm; clear f1_ f2_ f3_; subst f4_; subst f5_))
                      refine hK.out _ _ ⟨(blk_cell BK428.out 0).trans rfl, (blk_cell BK428.out 1).trans rfl, (blk_cell BK417.out 0).trans rfl, (blk_cell BK417.out 1).trans rfl, (blk_cell BK418.out 0).trans rfl, (blk_cell BK418.out 1).trans rfl⟩ (fun hHeld => ?_)
                      clear hK K
                      refine norm_ (a' := ?_) ?_ ?_
                      rotate_left
                      · show Act.put _ (some 75) _ = _
                        simp only [Act.put, List.setIfInBounds_toArray, List.set_cons_zero, List.set_cons_succ, i64_w, i32_w]
                        rfl
                      refine one_ (i := 21) (N := some 76) #[true, true, true, true, true, true, true, true, true, true, true, true, true, true, true, true, true, true, true, true, true, true, false, false] rfl rfl (one_of HT_.out (by kernel_rfl)) (by decide) (fun K hK => ?_)
                      refine goes_ Try.func39 (by kernel_rfl) rfl #[.agg #[.int .i64 t424, .slice Ao37 t425.length co37], .agg #[.int .i64 t438, .slice Ao74 t439.length co74]] (by rfl) rfl rfl (by (try simp only [List.map_toArray, List.map_cons, List.map_nil]); first | done | rfl | (simp only [List.length_drop, List.length_take]; rfl)) ?_
                      with_reducible refine (tree_Same.calls kj52 t424 _ _ t425 t438 _ _ t439 t442 _ ?side1 ?side2 ?side3 ?side4 A70.out).mono ?_
                      (case side1 => repeat (first | exact (Kd.N_reads' HO_429001.out).2.2 | (with_reducible refine Kd.C_alloc ?_ _) | (with_reducible refine Kd.C_drewN ?_ _) | (with_reducible refine Kd.C_drew ?_)))
                      (case side2 => exact (Kd.N_reads' HO_429001.out).2.1)
                      (case side3 => repeat (first | exact (Kd.N_reads' HO441.out).2.2 | (with_reducible refine Kd.C_alloc ?_ _) | (with_reducible refine Kd.C_drewN ?_ _) | (with_reducible refine Kd.C_drew ?_)))
                      (case side4 => exact (Kd.N_reads' HO441.out).2.1)
                      rintro e w75 ⟨rfl, hb⟩
                      refine ⟨_, rfl, ?_⟩
                      have n0_ := Aside0.mk (Kd.N_below (by (with_reducible repeat (first | apply Kd.N_alloc | apply Kd.N_drewN | apply Kd.N_drew)); exact HO_429001.out) hb)
                      have n1_ := Aside0.mk (Kd.N_below (by (with_reducible repeat (first | apply Kd.N_alloc | apply Kd.N_drewN | apply Kd.N_drew)); exact HO441.out) hb)
                      have n2_ := Aside0.mk (blk_below (g := gb417) (o := .cells #[.int .i64 a0_0, .slice A0_1 l0_1.length c0_1] 39 (0, 0)) (by (with_reducible repeat (first | refine blk_drewN ?_ _ | refine blk_drew ?_ | refine blk_alloc ?_ _)); exact BK417.out) hb)
                      have n3_ := Aside0.mk (blk_below (g := gb418) (o := .cells #[.int .i64 a1_0, .slice A1_1 l1_1.length c1_1] 39 (0, 0)) (by (with_reducible repeat (first | refine blk_drewN ?_ _ | refine blk_drew ?_ | refine blk_alloc ?_ _)); exact BK418.out) hb)
                      have n4_ := Aside0.mk (blk_below (g := gb428) (o := .cells #[.int .i64 t424, .slice Ao37 t425.length co37] 39 (0, 0)) (by (with_reducible repeat (first | refine blk_drewN ?_ _ | refine blk_drew ?_ | refine blk_alloc ?_ _)); exact BK428.out) hb)
                      have n5_ := Aside0.mk (below_step (by repeat (first | (with_reducible first | exact HB.out | apply below_alloc | apply pw_below_drewN | apply below_drew1 | refine below_set ?_ GE417.out | refine below_set ?_ GE418.out | refine below_set ?_ GE428.out) | exact HB.out)) hb)
                      clear HO_429001
                      clear HO441
                      clear BK417
                      clear BK418
                      clear BK428
                      clear HB
                      have HO_429001 := n0_
                      have HO441 := n1_
                      have BK417 := n2_
                      have BK418 := n3_
                      have BK428 := n4_
                      have HB := n5_
                      clear n0_ n1_ n2_ n3_ n4_ n5_
                      (try clear hb)
                      (try clear hb2)
                      (try clear hk)
                      (try clear hi)
                      refine hK.out _ _ ⟨(blk_cell BK428.out 0).trans rfl, (blk_cell BK428.out 1).trans rfl, (blk_cell BK417.out 0).trans rfl, (blk_cell BK417.out 1).trans rfl, (blk_cell BK418.out 0).trans rfl, (blk_cell BK418.out 1).trans rfl⟩ (fun hHeld => ?_)
                      clear hK K
                      refine norm_ (a' := ?_) ?_ ?_
                      rotate_left
                      · show Act.put _ (some 76) _ = _
                        simp only [Act.put, List.setIfInBounds_toArray, List.set_cons_zero, List.set_cons_succ, i64_w, i32_w]
                        rfl
                      refine pure_ (i := 22) (N := some 77) (v := ?_) (a' := ?_) #[true, true, true, true, true, true, true, true, true, true, true, true, true, true, true, true, true, true, true, true, true, true, true, false] rfl rfl (any_of HT_.out (by kernel_rfl)) (fun _ _ _ h => h) (Or.inl ⟨by rfl, ?_⟩) ?_ ?_
                      rotate_left
                      · intro w'
                        go_simp
                        with_reducible rfl
                      rotate_left
                      · simp only [Act.put, List.setIfInBounds_toArray, List.set_cons_zero, List.set_cons_succ, i64_w, i32_w]
                        rfl
                      refine pure_ (i := 23) (N := some 4) (v := ?_) (a' := ?_) #[true, true, true, true, true, true, true, true, true, true, true, true, true, true, true, true, true, true, true, true, true, true, true, true] rfl rfl (any_of HT_.out (by kernel_rfl)) (fun _ _ _ h => h) (Or.inl ⟨by rfl, ?_⟩) ?_ ?_
                      rotate_left
                      · intro w'
                        go_simp
                        with_reducible rfl
                      rotate_left
                      · simp only [Act.put, List.setIfInBounds_toArray, List.set_cons_zero, List.set_cons_succ, i64_w, i32_w]
                        rfl
                      refine done_ (done_of HT_.out (by kernel_rfl)) ?_
                      try go_wp2
                      go_ret
                      exact ⟨by first | rfl | (simp [errW_none, errW_some] <;> rfl) | (simp [*, errW_none, errW_some] <;> rfl) | (clear HB; simp only [aside0_iff] at *; simp_all; done), by repeat (first | (with_reducible first | exact HB.out | apply below_alloc | apply pw_below_drewN | apply below_drew1 | refine below_set ?_ GE417.out | refine below_set ?_ GE418.out | refine below_set ?_ GE428.out) | exact HB.out)⟩
                  · rw [if_neg c57] at H
                    have c57b0 : (t431 == x9_52) = false := by simpa using c57
                    (try (have c57b1 : decide (t431 = x9_52) = false := by simpa using c57))
                    (try (have c57b2 : (t431 == x9_52) = false := by simpa using c57))
                    (try (have c57b3 : ¬ (t431 = x9_52) := by simpa using c57))
                    clear c57
                    exact absurd H (by simp)

end Go.Proofs.Ytdegbnjnbpjdfaa.T
