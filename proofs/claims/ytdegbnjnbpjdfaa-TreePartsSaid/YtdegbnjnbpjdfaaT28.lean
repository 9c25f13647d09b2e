/- Go functions of this claim as Lean functions, and that each call comes to what its Lean function says; written for this claim by a program of this session (mkprint.py, over the kit's printer). Conditions: those in each theorem. -/
import Derived.Test.YtdegbnjnbpjdfaaT0
import Derived.Test.YtdegbnjnbpjdfaaT2
import Derived.Test.YtdegbnjnbpjdfaaT4
import Derived.Test.YtdegbnjnbpjdfaaT6
import Derived.Test.YtdegbnjnbpjdfaaT7
import Derived.Test.YtdegbnjnbpjdfaaT10
import Derived.Test.YtdegbnjnbpjdfaaT11
import Derived.Test.YtdegbnjnbpjdfaaT16
namespace Go.Proofs.Ytdegbnjnbpjdfaa.T
open Go.RowKit Go.Proofs.YtdegbnjnbpjdfaaW.PrintWords Go.Proofs.YtdegbnjnbpjdfaaW.PrintLast Go.Proofs.YtdegbnjnbpjdfaaW.PrintMore
attribute [local go_sem] max2_int min2_int max_two min_two max_three min_three max_four min_four   -- for this text's walks alone
set_option linter.unusedVariables false
set_option linter.unusedSimpArgs false

/-! ### roadbooklaw06_TreeParts: function 12 -/
mutual
def roadbooklaw06_TreeParts.j0 : Nat → Bool → Bool → Int → List (S39) → Option (Bool)
  | 0, _, _, _, _ => none
  | k + 1, x3, x19, x444000, x444001 => if x19 = true then (some x3) else ((roadbookref06_Leaves.f k x444000 x444001).bind fun t447 => ((tree_Text.f k x444000 x444001).bind fun t450 => (if (t450.size : Int) = (wrap64 ((wrap64 (3 * (t447.length : Int))) - 2)) then (if (t447.length : Int) < 1 then (roadbooklaw06_TreeParts.j1 k true x444000 x444001) else (roadbooklaw06_TreeParts.j1 k (decide ((t447.length : Int) > 4)) x444000 x444001)) else (roadbooklaw06_TreeParts.j1 k true x444000 x444001))))
def roadbooklaw06_TreeParts.j1 : Nat → Bool → Int → List (S39) → Option (Bool)
  | 0, _, _, _ => none
  | k + 1, x40, x444000, x444001 => if x40 = true then (none) else (if (x444001.length : Int) = 0 then ((tree_Leaf.f x444000).bind fun bt451 => ((tree_Same.f k x444000 x444001 bt451.1 bt451.2).bind fun t455 => (some t455))) else (if 0 < (x444001.length : Int) then ((tree_Set.f k ((rd_T39 x444001 0).f0) ((rd_T39 x444001 0).f1)).bind fun t457 => (if 1 < (x444001.length : Int) then ((tree_Set.f k ((rd_T39 x444001 1).f0) ((rd_T39 x444001 1).f1)).bind fun t459 => (if t457 > 0 then (if t459 > 0 then (if (Go.bits .and .i64 t457 t459) = 0 then ((tree_Set.f k x444000 x444001).bind fun t460 => (if (Go.bits .or .i64 t457 t459) = t460 then ((tree_Join.f ((rd_T39 x444001 0).f0) ((rd_T39 x444001 0).f1) ((rd_T39 x444001 1).f0) ((rd_T39 x444001 1).f1)).bind fun bt463 => ((tree_Same.f k x444000 x444001 bt463.1 bt463.2).bind fun t467 => (some t467))) else (none))) else (none)) else (none)) else (none))) else (none))) else (none)))
end
def roadbooklaw06_TreeParts.f (k : Nat) (a0_0 : Int) (l0_1 : List (S39)) : Option (Bool) := (roadbooklaw06_awake.f k).bind fun t444 => (if t444 = true then ((roadbookref06_Size.f k a0_0 l0_1 100).bind fun t445 => (if t445 > 100 then (roadbooklaw06_TreeParts.j0 k t444 true a0_0 l0_1) else ((tree_May.f k a0_0 l0_1).bind fun t446 => (roadbooklaw06_TreeParts.j0 k t444 (!t446) a0_0 l0_1)))) else (roadbooklaw06_TreeParts.j0 k t444 true a0_0 l0_1))
theorem roadbooklaw06_TreeParts.mono_l : ∀ k, (∀ y0 y1 y2 y3, LeO (roadbooklaw06_TreeParts.j0 k y0 y1 y2 y3) (roadbooklaw06_TreeParts.j0 (k + 1) y0 y1 y2 y3)) ∧ (∀ y0 y1 y2, LeO (roadbooklaw06_TreeParts.j1 k y0 y1 y2) (roadbooklaw06_TreeParts.j1 (k + 1) y0 y1 y2))
  | 0 => ⟨fun _ _ _ _ r h => by simp [roadbooklaw06_TreeParts.j0] at h, fun _ _ _ r h => by simp [roadbooklaw06_TreeParts.j1] at h⟩
  | k + 1 => by
    obtain ⟨ih0, ih1⟩ := roadbooklaw06_TreeParts.mono_l k
    refine ⟨?_, ?_⟩
    · intro y0 y1 y2 y3
      unfold roadbooklaw06_TreeParts.j0
      repeat' first
      | (with_reducible exact ih0 _ _ _ _)
      | (with_reducible exact ih1 _ _ _)
      | (with_reducible exact roadbooklaw06_awake.mono _)
      | (with_reducible exact roadbookref06_Leaves.mono _ _ _)
      | (with_reducible exact roadbookref06_Size.mono _ _ _ _)
      | (with_reducible exact tree_May.mono _ _ _)
      | (with_reducible exact tree_Same.mono _ _ _ _ _)
      | (with_reducible exact tree_Set.mono _ _ _)
      | (with_reducible exact tree_Text.mono _ _ _)
      | (with_reducible exact LeO.refl _)
      | (with_reducible exact LeO.none _)
      | (with_reducible refine LeO.ite ?_ ?_)
      | (with_reducible refine LeO.bind ?_ (fun _ => ?_))
      | exact ih0 _ _ _ _
      | exact ih1 _ _ _
      | exact roadbooklaw06_awake.mono _
      | exact roadbookref06_Leaves.mono _ _ _
      | exact roadbookref06_Size.mono _ _ _ _
      | exact tree_May.mono _ _ _
      | exact tree_Same.mono _ _ _ _ _
      | exact tree_Set.mono _ _ _
      | exact tree_Text.mono _ _ _
      | exact LeO.none _
      | refine LeO.ite ?_ ?_
      | refine LeO.bind ?_ (fun _ => ?_)
    · intro y0 y1 y2
      unfold roadbooklaw06_TreeParts.j1
      repeat' first
      | (with_reducible exact ih0 _ _ _ _)
      | (with_reducible exact ih1 _ _ _)
      | (with_reducible exact roadbooklaw06_awake.mono _)
      | (with_reducible exact roadbookref06_Leaves.mono _ _ _)
      | (with_reducible exact roadbookref06_Size.mono _ _ _ _)
      | (with_reducible exact tree_May.mono _ _ _)
      | (with_reducible exact tree_Same.mono _ _ _ _ _)
      | (with_reducible exact tree_Set.mono _ _ _)
      | (with_reducible exact tree_Text.mono _ _ _)
      | (with_reducible exact LeO.refl _)
      | (with_reducible exact LeO.none _)
      | (with_reducible refine LeO.ite ?_ ?_)
      | (with_reducible refine LeO.bind ?_ (fun _ => ?_))
      | exact ih0 _ _ _ _
      | exact ih1 _ _ _
      | exact roadbooklaw06_awake.mono _
      | exact roadbookref06_Leaves.mono _ _ _
      | exact roadbookref06_Size.mono _ _ _ _
      | exact tree_May.mono _ _ _
      | exact tree_Same.mono _ _ _ _ _
      | exact tree_Set.mono _ _ _
      | exact tree_Text.mono _ _ _
      | exact LeO.none _
      | refine LeO.ite ?_ ?_
      | refine LeO.bind ?_ (fun _ => ?_)
theorem roadbooklaw06_TreeParts.mono : ∀ a0 a1 k, LeO (roadbooklaw06_TreeParts.f k a0 a1) (roadbooklaw06_TreeParts.f (k + 1) a0 a1) := by
  intro a0 a1 k
  obtain ⟨ih0, ih1⟩ := roadbooklaw06_TreeParts.mono_l k
  unfold roadbooklaw06_TreeParts.f
  repeat' first
      | (with_reducible exact ih0 _ _ _ _)
      | (with_reducible exact ih1 _ _ _)
      | (with_reducible exact roadbooklaw06_awake.mono _)
      | (with_reducible exact roadbookref06_Leaves.mono _ _ _)
      | (with_reducible exact roadbookref06_Size.mono _ _ _ _)
      | (with_reducible exact tree_May.mono _ _ _)
      | (with_reducible exact tree_Same.mono _ _ _ _ _)
      | (with_reducible exact tree_Set.mono _ _ _)
      | (with_reducible exact tree_Text.mono _ _ _)
      | (with_reducible exact LeO.refl _)
      | (with_reducible exact LeO.none _)
      | (with_reducible refine LeO.ite ?_ ?_)
      | (with_reducible refine LeO.bind ?_ (fun _ => ?_))
      | exact ih0 _ _ _ _
      | exact ih1 _ _ _
      | exact roadbooklaw06_awake.mono _
      | exact roadbookref06_Leaves.mono _ _ _
      | exact roadbookref06_Size.mono _ _ _ _
      | exact tree_May.mono _ _ _
      | exact tree_Same.mono _ _ _ _ _
      | exact tree_Set.mono _ _ _
      | exact tree_Text.mono _ _ _
      | exact LeO.none _
      | refine LeO.ite ?_ ?_
      | refine LeO.bind ?_ (fun _ => ?_)
def roadbooklaw06_TreeParts.T11 : Bool × List (List Nat × List Nat) := (true, [([], []), ([0], [0]), ([1], [1]), ([2], [2]), ([3, 2], [2, 3]), ([2, 4], [2, 4]), ([5, 2], [5]), ([6], [6]), ([6], [6]), ([7, 8, 6], [6, 7, 8]), ([9, 6], [6, 9]), ([6, 10], [6, 10]), ([11, 6], [11]), ([12], [12]), ([12], [12]), ([13, 14, 12], [12, 13, 14]), ([12], [12]), ([16, 12, 12], [12, 16]), ([15, 17, 12], [12, 15, 17]), ([12, 18], [12, 18]), ([19, 17], [19]), ([20], [20]), ([20], [20]), ([22, 20], [20, 22]), ([23, 20], [20, 23]), ([24, 20], [20, 24]), ([20], [20]), ([26, 20], [20, 26]), ([27, 20], [20, 27]), ([28, 20], [20, 28]), ([25, 29, 20, 20], [20, 25, 29]), ([21, 30, 30, 20], [20, 21, 30]), ([20, 31], [20, 31]), ([32, 31, 0, 1, 2, 3, 4, 5, 6, 7, 8, 9, 10, 11, 12, 13, 14, 15, 16, 17, 18, 19, 20, 21, 22, 23, 24, 25, 26, 27, 28, 29, 30, 31, 32], [32])])
def roadbooklaw06_TreeParts.B11 : List Nat := [0, 1, 3, 7, 15, 31, 63, 127, 127, 511, 1023, 2047, 4095, 8191, 8191, 32767, 8191, 73727, 262143, 524287, 1048575, 2097151, 2097151, 6291455, 14680063, 31457279, 2097151, 69206015, 203423743, 471859199, 1071644671, 2147483647, 4294967295, 8589934591]
theorem roadbooklaw06_TreeParts.tab11 : rtab .any (opsOf Try.f12 11) = roadbooklaw06_TreeParts.T11 := by kernel_rfl
theorem roadbooklaw06_TreeParts.bits11 : waitsOk roadbooklaw06_TreeParts.T11.2 roadbooklaw06_TreeParts.B11 = true := by kernel_rfl
set_option maxHeartbeats 8000000 in
set_option maxRecDepth 100000 in
theorem roadbooklaw06_TreeParts.calls (k : Nat) (a0_0 : Int) (A0_1 : Option Addr) (c0_1 : Nat) (l0_1 : List (S39)) (r : Bool) (w : World) (hr0_1 : Kd.C k39 w A0_1 l0_1.length l0_1) (hc0_1 : l0_1.length ≤ c0_1) (h : roadbooklaw06_TreeParts.f k a0_0 l0_1 = some r) :
    Calls Try.prog 12 #[.agg #[.int .i64 a0_0, .slice A0_1 l0_1.length c0_1]] w fun e w' => e = .returned (.bool r) ∧ Below w.heap.size w w' := by
  have hu39 := Try.underlying39
  have HR0_1 := Aside0.mk hr0_1
  have HC0_1 := Aside0.mk hc0_1
  clear hr0_1 hc0_1
  have HB := Aside0.mk (Below.refl w.heap.size w)
  have H : ((roadbooklaw06_awake.f k).bind fun t444 => (if t444 = true then ((roadbookref06_Size.f k a0_0 l0_1 100).bind fun t445 => (if t445 > 100 then (roadbooklaw06_TreeParts.j0 k t444 true a0_0 l0_1) else ((tree_May.f k a0_0 l0_1).bind fun t446 => (roadbooklaw06_TreeParts.j0 k t444 (!t446) a0_0 l0_1)))) else (roadbooklaw06_TreeParts.j0 k t444 true a0_0 l0_1))) = some r := h
  clear h
  replace H := Option.bind_eq_some_iff.mp H
  obtain ⟨t444, A20, H⟩ := H
  replace H : (if t444 = true then ((roadbookref06_Size.f k a0_0 l0_1 100).bind fun t445 => (if t445 > 100 then (roadbooklaw06_TreeParts.j0 k t444 true a0_0 l0_1) else ((tree_May.f k a0_0 l0_1).bind fun t446 => (roadbooklaw06_TreeParts.j0 k t444 (!t446) a0_0 l0_1)))) else (roadbooklaw06_TreeParts.j0 k t444 true a0_0 l0_1)) = some r := H
  have A2 := Aside0.mk A20
  clear A20
  have HC3 := Aside0.mk H
  clear H
  go_enter Try.func12, Try.ntmps12
  go_upto_region 2 with (first | ((with_reducible refine gate_dst (N := 1) rfl ?_); (try (refine gate_guard (by rfl) ?_; dsimp only)); refine box_event ?hg (N := 1) ?hd (cs := #[.int .i64 a0_0, .slice A0_1 l0_1.length c0_1]) (t := 39) ?hr ?_; (case hd => rfl); (case hg => rfl); (case hr => first | (go_simp; done) | (go_simp; rfl)); intro gb443 hg w4 hbox hb; have n0_ := Aside0.mk (below_step (by repeat (first | (with_reducible first | exact HB.out | apply below_alloc | apply pw_below_drewN | apply below_drew1) | exact HB.out)) hb); have n1_ := Aside0.mk (hbox); have n2_ := Aside0.mk ((by rw [hg]; exact (below_size (by repeat (first | (with_reducible first | exact HB.out | apply below_alloc | apply pw_below_drewN | apply below_drew1) | exact HB.out))) : w.heap.size ≤ gb443)); have n3_ := Aside0.mk ((by rw [hg]; exact (below_size (by repeat (first | (with_reducible first | exact HB.out | apply below_alloc | apply pw_below_drewN | apply below_drew1) | exact HB.out))) : w.heap.size ≤ gb443)); clear HB; have HB := n0_; have BK443 := n1_; have GW443 := n2_; have GE443 := n3_; clear n0_ n1_ n2_ n3_; clear hb hbox hg) | ((with_reducible refine gate_callee (f := 29) rfl ?_); refine goesL_ (some 7) rfl rfl Try.func29 (by kernel_rfl) rfl #[] rfl (by (try simp only [List.map_toArray, List.map_cons, List.map_nil]); first | done | rfl | (simp only [List.length_drop, List.length_take]; rfl)) ?_; (with_reducible refine (roadbooklaw06_awake.calls k  t444 _ A2.out).mono ?_); rintro e w5 ⟨rfl, hb⟩; refine ⟨_, rfl, ?_⟩; have n0_ := Aside0.mk (blk_below (g := gb443) (o := .cells #[.int .i64 a0_0, .slice A0_1 l0_1.length c0_1] 39 (0, 0)) (by (with_reducible repeat (first | refine blk_drewN ?_ _ | refine blk_drew ?_ | refine blk_alloc ?_ _)); exact BK443.out) hb); have n1_ := Aside0.mk (below_step (by repeat (first | (with_reducible first | exact HB.out | apply below_alloc | apply pw_below_drewN | apply below_drew1 | refine below_set ?_ GE443.out) | exact HB.out)) hb); clear BK443; clear HB; have BK443 := n0_; have HB := n1_; clear n0_ n1_; (try clear hb); (try clear hb2); (try clear hk); (try clear hi)))
  (try simp only [Act.put, List.setIfInBounds_toArray, List.set_cons_zero, List.set_cons_succ])
  go_cut [19] (fun v19 wc => ∃ (kq : Nat) (x19_2 : Bool), v19 = .bool x19_2 ∧ Aside0 (roadbooklaw06_TreeParts.j0 kq t444 x19_2 a0_0 l0_1 = some r) ∧ Aside0 (kq ≤ k) ∧ Aside0 (wc.heap[gb443]? = some (.cells #[.int .i64 a0_0, (.slice A0_1 l0_1.length c0_1)] 39 (0, 0))) ∧ Aside0 (Below w.heap.size w wc))
  case first =>
    have H := HC3.out
    clear HC3
    by_cases c6 : t444 = true
    · subst c6
      have H1 : ((roadbookref06_Size.f k a0_0 l0_1 100).bind fun t445 => (if t445 > 100 then (roadbooklaw06_TreeParts.j0 k true true a0_0 l0_1) else ((tree_May.f k a0_0 l0_1).bind fun t446 => (roadbooklaw06_TreeParts.j0 k true (!t446) a0_0 l0_1)))) = some r := by rw [if_pos rfl] at H; exact H
      clear H
      have H := H1
      clear H1
      replace H := Option.bind_eq_some_iff.mp H
      obtain ⟨t445, A70, H⟩ := H
      replace H : (if t445 > 100 then (roadbooklaw06_TreeParts.j0 k true true a0_0 l0_1) else ((tree_May.f k a0_0 l0_1).bind fun t446 => (roadbooklaw06_TreeParts.j0 k true (!t446) a0_0 l0_1))) = some r := H
      have A7 := Aside0.mk A70
      clear A70
      by_cases c8 : t445 > 100
      · rw [if_pos c8] at H
        have c8b0 : decide (100 < t445) = true := decide_eq_true c8
        clear c8
        (first | rw [c8b0] | (simp only [i64_w, i32_w]; rw [c8b0]) | skip)
        have H' := Aside0.mk H
        clear H
        have hcz9_0 : w5.cell? ⟨gb443, 0, none⟩ = some (.int .i64 a0_0) := (blk_cell BK443.out 0).trans rfl
        have hcz9_1 : w5.cell? ⟨gb443, 1, none⟩ = some (.slice A0_1 l0_1.length c0_1) := (blk_cell BK443.out 1).trans rfl
        have hfz9_0 := blk_frozen BK443.out 0
        have hfz9_1 := blk_frozen BK443.out 1
        go_wp2_with (first | (go_at_call 30; (with_reducible refine (roadbookref06_Size.calls k a0_0 _ _ l0_1 100 t445 _ ?side1 ?side2 A7.out).mono ?_); (case side1 => repeat (first | exact (Kd.C_below HR0_1.out HB.out) | (with_reducible refine Kd.C_alloc ?_ _) | (with_reducible refine Kd.C_drewN ?_ _) | (with_reducible refine Kd.C_drew ?_))); (case side2 => exact HC0_1.out); rintro e w10 ⟨rfl, hb⟩; have n0_ := Aside0.mk (blk_below (g := gb443) (o := .cells #[.int .i64 a0_0, .slice A0_1 l0_1.length c0_1] 39 (0, 0)) (by (with_reducible repeat (first | refine blk_drewN ?_ _ | refine blk_drew ?_ | refine blk_alloc ?_ _)); exact BK443.out) hb); have n1_ := Aside0.mk (below_step (by repeat (first | (with_reducible first | exact HB.out | apply below_alloc | apply pw_below_drewN | apply below_drew1 | refine below_set ?_ GE443.out) | exact HB.out)) hb); clear BK443; clear HB; have BK443 := n0_; have HB := n1_; clear n0_ n1_; (try clear hb); (try clear hb2); (try clear hk); (try clear hi)))
        go_meet
        case rel => exact ⟨_, (true), (by first | rfl | (simp; done) | (simp [*]; done)), H', ⟨by first | omega | exact Nat.le_refl _⟩, ⟨by (with_reducible repeat (first | refine blk_drewN ?_ _ | refine blk_drew ?_ | refine blk_alloc ?_ _)); exact BK443.out⟩, ⟨by repeat (first | (with_reducible first | exact HB.out | apply below_alloc | apply pw_below_drewN | apply below_drew1 | refine below_set ?_ GE443.out) | exact HB.out)⟩⟩
      · rw [if_neg c8] at H
        have c8b0 : decide (100 < t445) = false := decide_eq_false c8
        clear c8
        (first | rw [c8b0] | (simp only [i64_w, i32_w]; rw [c8b0]) | skip)
        replace H := Option.bind_eq_some_iff.mp H
        obtain ⟨t446, A110, H⟩ := H
        replace H : (roadbooklaw06_TreeParts.j0 k true (!t446) a0_0 l0_1) = some r := H
        have A11 := Aside0.mk A110
        clear A110
        have H' := Aside0.mk H
        clear H
        have hcz12_0 : w5.cell? ⟨gb443, 0, none⟩ = some (.int .i64 a0_0) := (blk_cell BK443.out 0).trans rfl
        have hcz12_1 : w5.cell? ⟨gb443, 1, none⟩ = some (.slice A0_1 l0_1.length c0_1) := (blk_cell BK443.out 1).trans rfl
        have hfz12_0 := blk_frozen BK443.out 0
        have hfz12_1 := blk_frozen BK443.out 1
        go_wp2_with (first | (go_at_call 30; (with_reducible refine (roadbookref06_Size.calls k a0_0 _ _ l0_1 100 t445 _ ?side1 ?side2 A7.out).mono ?_); (case side1 => repeat (first | exact (Kd.C_below HR0_1.out HB.out) | (with_reducible refine Kd.C_alloc ?_ _) | (with_reducible refine Kd.C_drewN ?_ _) | (with_reducible refine Kd.C_drew ?_))); (case side2 => exact HC0_1.out); rintro e w13 ⟨rfl, hb⟩; have n0_ := Aside0.mk (blk_below (g := gb443) (o := .cells #[.int .i64 a0_0, .slice A0_1 l0_1.length c0_1] 39 (0, 0)) (by (with_reducible repeat (first | refine blk_drewN ?_ _ | refine blk_drew ?_ | refine blk_alloc ?_ _)); exact BK443.out) hb); have n1_ := Aside0.mk (below_step (by repeat (first | (with_reducible first | exact HB.out | apply below_alloc | apply pw_below_drewN | apply below_drew1 | refine below_set ?_ GE443.out) | exact HB.out)) hb); clear BK443; clear HB; have BK443 := n0_; have HB := n1_; clear n0_ n1_; (try clear hb); (try clear hb2); (try clear hk); (try clear hi); have hcz14_0 : w13.cell? ⟨gb443, 0, none⟩ = some (.int .i64 a0_0) := (blk_cell BK443.out 0).trans rfl; have hcz14_1 : w13.cell? ⟨gb443, 1, none⟩ = some (.slice A0_1 l0_1.length c0_1) := (blk_cell BK443.out 1).trans rfl; have hfz14_0 := blk_frozen BK443.out 0; have hfz14_1 := blk_frozen BK443.out 1) | (go_at_call 33; (with_reducible refine (tree_May.calls k a0_0 _ _ l0_1 t446 _ ?side1 ?side2 A11.out).mono ?_); (case side1 => repeat (first | exact (Kd.C_below HR0_1.out HB.out) | (with_reducible refine Kd.C_alloc ?_ _) | (with_reducible refine Kd.C_drewN ?_ _) | (with_reducible refine Kd.C_drew ?_))); (case side2 => exact HC0_1.out); rintro e w15 ⟨rfl, hb⟩; have n0_ := Aside0.mk (blk_below (g := gb443) (o := .cells #[.int .i64 a0_0, .slice A0_1 l0_1.length c0_1] 39 (0, 0)) (by (with_reducible repeat (first | refine blk_drewN ?_ _ | refine blk_drew ?_ | refine blk_alloc ?_ _)); exact BK443.out) hb); have n1_ := Aside0.mk (below_step (by repeat (first | (with_reducible first | exact HB.out | apply below_alloc | apply pw_below_drewN | apply below_drew1 | refine below_set ?_ GE443.out) | exact HB.out)) hb); clear BK443; clear HB; have BK443 := n0_; have HB := n1_; clear n0_ n1_; (try clear hb); (try clear hb2); (try clear hk); (try clear hi)))
        go_meet
        case rel => exact ⟨_, (!t446), (by first | rfl | (simp; done) | (simp [*]; done)), H', ⟨by first | omega | exact Nat.le_refl _⟩, ⟨by (with_reducible repeat (first | refine blk_drewN ?_ _ | refine blk_drew ?_ | refine blk_alloc ?_ _)); exact BK443.out⟩, ⟨by repeat (first | (with_reducible first | exact HB.out | apply below_alloc | apply pw_below_drewN | apply below_drew1 | refine below_set ?_ GE443.out) | exact HB.out)⟩⟩
    · replace c6 := Bool.eq_false_iff.mpr c6
      subst c6
      have H1 : (roadbooklaw06_TreeParts.j0 k false true a0_0 l0_1) = some r := by rw [if_neg (show ¬ (false = true) by decide)] at H; exact H
      clear H
      have H := H1
      clear H1
      have H' := Aside0.mk H
      clear H
      go_wp2
      go_meet
      case rel => exact ⟨_, (true), (by first | rfl | (simp; done) | (simp [*]; done)), H', ⟨by first | omega | exact Nat.le_refl _⟩, ⟨by (with_reducible repeat (first | refine blk_drewN ?_ _ | refine blk_drew ?_ | refine blk_alloc ?_ _)); exact BK443.out⟩, ⟨by repeat (first | (with_reducible first | exact HB.out | apply below_alloc | apply pw_below_drewN | apply below_drew1 | refine below_set ?_ GE443.out) | exact HB.out)⟩⟩
  case rest =>
    clear HC3
    try clear c1
    try clear c2
    try clear p2
    try clear c6
    try clear c8
    try clear c8b0
    try clear c12
    try clear hcz12_0
    try clear hcz12_1
    try clear hcz14_0
    try clear hcz14_1
    try clear hcz9_0
    try clear hcz9_1
    try clear hfz12_0
    try clear hfz12_1
    try clear hfz14_0
    try clear hfz14_1
    try clear hfz9_0
    try clear hfz9_1
    obtain ⟨kq, x19_2, rfl, HA, HJ2, BK443, HB⟩ := hcut
    cases kq with
    | zero => exact absurd HA.out (by simp [roadbooklaw06_TreeParts.j0])
    | succ kj2 =>
      have H := HA.out
      clear HA
      simp only [roadbooklaw06_TreeParts.j0] at H
      by_cases c16 : x19_2 = true
      · subst c16
        have H1 : (some t444) = some r := by rw [if_pos rfl] at H; exact H
        clear H
        have H := H1
        clear H1
        obtain rfl := Option.some.inj H
        go_wp2
        go_ret
        exact ⟨by first | rfl | (simp [errW_none, errW_some] <;> rfl) | (simp [*, errW_none, errW_some] <;> rfl) | (clear HB; simp only [aside0_iff] at *; simp_all; done), by repeat (first | (with_reducible first | exact HB.out | apply below_alloc | apply pw_below_drewN | apply below_drew1 | refine below_set ?_ GE443.out) | exact HB.out)⟩
      · replace c16 := Bool.eq_false_iff.mpr c16
        subst c16
        have H1 : ((roadbookref06_Leaves.f kj2 a0_0 l0_1).bind fun t447 => ((tree_Text.f kj2 a0_0 l0_1).bind fun t450 => (if (t450.size : Int) = (wrap64 ((wrap64 (3 * (t447.length : Int))) - 2)) then (if (t447.length : Int) < 1 then (roadbooklaw06_TreeParts.j1 kj2 true a0_0 l0_1) else (roadbooklaw06_TreeParts.j1 kj2 (decide ((t447.length : Int) > 4)) a0_0 l0_1)) else (roadbooklaw06_TreeParts.j1 kj2 true a0_0 l0_1)))) = some r := by rw [if_neg (show ¬ (false = true) by decide)] at H; exact H
        clear H
        have H := H1
        clear H1
        replace H := Option.bind_eq_some_iff.mp H
        obtain ⟨t447, A170, H⟩ := H
        replace H : ((tree_Text.f kj2 a0_0 l0_1).bind fun t450 => (if (t450.size : Int) = (wrap64 ((wrap64 (3 * (t447.length : Int))) - 2)) then (if (t447.length : Int) < 1 then (roadbooklaw06_TreeParts.j1 kj2 true a0_0 l0_1) else (roadbooklaw06_TreeParts.j1 kj2 (decide ((t447.length : Int) > 4)) a0_0 l0_1)) else (roadbooklaw06_TreeParts.j1 kj2 true a0_0 l0_1))) = some r := H
        have A17 := Aside0.mk A170
        clear A170
        have HC18 := Aside0.mk H
        clear H
        have hcz19_0 : wc.cell? ⟨gb443, 0, none⟩ = some (.int .i64 a0_0) := (blk_cell BK443.out 0).trans rfl
        have hcz19_1 : wc.cell? ⟨gb443, 1, none⟩ = some (.slice A0_1 l0_1.length c0_1) := (blk_cell BK443.out 1).trans rfl
        have hfz19_0 := blk_frozen BK443.out 0
        have hfz19_1 := blk_frozen BK443.out 1
        go_upto_region 5 with (first | ((with_reducible refine gate_callee (f := 49) rfl ?_); refine goesL_ (some 22) rfl rfl Try.func49 (by kernel_rfl) rfl #[.agg #[.int .i64 a0_0, .slice A0_1 l0_1.length c0_1]] rfl (by (try simp only [List.map_toArray, List.map_cons, List.map_nil]); first | done | rfl | (simp only [List.length_drop, List.length_take]; rfl)) ?_; (with_reducible refine (roadbookref06_Leaves.calls kj2 a0_0 _ _ l0_1 t447 _ ?side1 ?side2 A17.out).mono ?_); (case side1 => repeat (first | exact (Kd.C_below HR0_1.out HB.out) | (with_reducible refine Kd.C_alloc ?_ _) | (with_reducible refine Kd.C_drewN ?_ _) | (with_reducible refine Kd.C_drew ?_))); (case side2 => exact HC0_1.out); rintro e w20 ⟨v448, rfl, ho0, hb⟩; refine ⟨_, rfl, ?_⟩; have n0_ := Aside0.mk (Kd.R_lower ho0 (below_size (by repeat (first | (with_reducible first | exact HB.out | apply below_alloc | apply pw_below_drewN | apply below_drew1 | refine below_set ?_ GE443.out) | exact HB.out)))); have n1_ := Aside0.mk (blk_below (g := gb443) (o := .cells #[.int .i64 a0_0, .slice A0_1 l0_1.length c0_1] 39 (0, 0)) (by (with_reducible repeat (first | refine blk_drewN ?_ _ | refine blk_drew ?_ | refine blk_alloc ?_ _)); exact BK443.out) hb); have n2_ := Aside0.mk (below_step (by repeat (first | (with_reducible first | exact HB.out | apply below_alloc | apply pw_below_drewN | apply below_drew1 | refine below_set ?_ GE443.out) | exact HB.out)) hb); clear BK443; clear HB; have HO449 := n0_; have BK443 := n1_; have HB := n2_; clear n0_ n1_ n2_; (try clear hb); (try clear hb2); (try clear hk); (try clear hi); (try clear ho0)))
        (try simp only [Act.put, List.setIfInBounds_toArray, List.set_cons_zero, List.set_cons_succ])
        go_cut [40] (fun v40 wc => ∃ (kq : Nat) (x40_17 : Bool), v40 = .bool x40_17 ∧ Aside0 (roadbooklaw06_TreeParts.j1 kq x40_17 a0_0 l0_1 = some r) ∧ Aside0 (kq ≤ kj2) ∧ Aside0 (wc.heap[gb443]? = some (.cells #[.int .i64 a0_0, (.slice A0_1 l0_1.length c0_1)] 39 (0, 0))) ∧ Aside0 (Below w.heap.size w wc))
        case first =>
          have H := HC18.out
          clear HC18
          replace H := Option.bind_eq_some_iff.mp H
          obtain ⟨t450, A210, H⟩ := H
          replace H : (if (t450.size : Int) = (wrap64 ((wrap64 (3 * (t447.length : Int))) - 2)) then (if (t447.length : Int) < 1 then (roadbooklaw06_TreeParts.j1 kj2 true a0_0 l0_1) else (roadbooklaw06_TreeParts.j1 kj2 (decide ((t447.length : Int) > 4)) a0_0 l0_1)) else (roadbooklaw06_TreeParts.j1 kj2 true a0_0 l0_1)) = some r := H
          have A21 := Aside0.mk A210
          clear A210
          by_cases c22 : (t450.size : Int) = (wrap64 ((wrap64 (3 * (t447.length : Int))) - 2))
          · rw [if_pos c22] at H
            have c22b0 : ((t450.size : Int) == (wrap64 ((wrap64 (3 * (t447.length : Int))) - 2))) = true := beq_iff_eq.mpr c22
            have c22b1 : ((t450.size : Int) != (wrap64 ((wrap64 (3 * (t447.length : Int))) - 2))) = false := bne_eq_false_iff_eq.mpr c22
            clear c22
            (first | rw [c22b0] | (simp only [i64_w, i32_w]; rw [c22b0]) | skip)
            by_cases c23 : (t447.length : Int) < 1
            · rw [if_pos c23] at H
              have c23b0 : decide ((t447.length : Int) < 1) = true := decide_eq_true c23
              have c23b1 : decide (t447.length < 1) = true := decide_eq_true (by omega)
              clear c23
              have H' := Aside0.mk H
              clear H
              have hcz24_0 : w20.cell? ⟨gb443, 0, none⟩ = some (.int .i64 a0_0) := (blk_cell BK443.out 0).trans rfl
              have hcz24_1 : w20.cell? ⟨gb443, 1, none⟩ = some (.slice A0_1 l0_1.length c0_1) := (blk_cell BK443.out 1).trans rfl
              have hfz24_0 := blk_frozen BK443.out 0
              have hfz24_1 := blk_frozen BK443.out 1
              go_wp2_with (first | ((with_reducible refine gate_callee (f := 37) rfl ?_); refine goesL_ (some 24) rfl rfl Try.func37 (by kernel_rfl) rfl #[.agg #[.int .i64 a0_0, .slice A0_1 l0_1.length c0_1]] rfl (by (try simp only [List.map_toArray, List.map_cons, List.map_nil]); first | done | rfl | (simp only [List.length_drop, List.length_take]; rfl)) ?_; (with_reducible refine (tree_Text.calls kj2 a0_0 _ _ l0_1 t450 _ ?side1 ?side2 A21.out).mono ?_); (case side1 => repeat (first | exact (Kd.C_below HR0_1.out HB.out) | (with_reducible refine Kd.C_alloc ?_ _) | (with_reducible refine Kd.C_drewN ?_ _) | (with_reducible refine Kd.C_drew ?_))); (case side2 => exact HC0_1.out); rintro e w25 ⟨rfl, hb⟩; refine ⟨_, rfl, ?_⟩; have n0_ := Aside0.mk (Kd.R_below (by (with_reducible repeat (first | apply Kd.R_alloc | apply Kd.R_drewN | apply Kd.R_drew)); exact HO449.out) hb); have n1_ := Aside0.mk (blk_below (g := gb443) (o := .cells #[.int .i64 a0_0, .slice A0_1 l0_1.length c0_1] 39 (0, 0)) (by (with_reducible repeat (first | refine blk_drewN ?_ _ | refine blk_drew ?_ | refine blk_alloc ?_ _)); exact BK443.out) hb); have n2_ := Aside0.mk (below_step (by repeat (first | (with_reducible first | exact HB.out | apply below_alloc | apply pw_below_drewN | apply below_drew1 | refine below_set ?_ GE443.out) | exact HB.out)) hb); clear HO449; clear BK443; clear HB; have HO449 := n0_; have BK443 := n1_; have HB := n2_; clear n0_ n1_ n2_; (try clear hb); (try clear hb2); (try clear hk); (try clear hi); obtain ⟨Ao26, co26, eo26⟩ := Kd.R_slice HO449.out; subst eo26))
              go_meet
              case rel => exact ⟨_, (true), (by first | rfl | (simp; done) | (simp [*]; done)), H', ⟨by have := HJ2.out; first | omega | exact Nat.le_refl _⟩, ⟨by (with_reducible repeat (first | refine blk_drewN ?_ _ | refine blk_drew ?_ | refine blk_alloc ?_ _)); exact BK443.out⟩, ⟨by repeat (first | (with_reducible first | exact HB.out | apply below_alloc | apply pw_below_drewN | apply below_drew1 | refine below_set ?_ GE443.out) | exact HB.out)⟩⟩
            · rw [if_neg c23] at H
              have c23b0 : decide ((t447.length : Int) < 1) = false := decide_eq_false c23
              have c23b1 : decide (t447.length < 1) = false := decide_eq_false (by omega)
              clear c23
              have H' := Aside0.mk H
              clear H
              have hcz27_0 : w20.cell? ⟨gb443, 0, none⟩ = some (.int .i64 a0_0) := (blk_cell BK443.out 0).trans rfl
              have hcz27_1 : w20.cell? ⟨gb443, 1, none⟩ = some (.slice A0_1 l0_1.length c0_1) := (blk_cell BK443.out 1).trans rfl
              have hfz27_0 := blk_frozen BK443.out 0
              have hfz27_1 := blk_frozen BK443.out 1
              go_wp2_with (first | ((with_reducible refine gate_callee (f := 37) rfl ?_); refine goesL_ (some 24) rfl rfl Try.func37 (by kernel_rfl) rfl #[.agg #[.int .i64 a0_0, .slice A0_1 l0_1.length c0_1]] rfl (by (try simp only [List.map_toArray, List.map_cons, List.map_nil]); first | done | rfl | (simp only [List.length_drop, List.length_take]; rfl)) ?_; (with_reducible refine (tree_Text.calls kj2 a0_0 _ _ l0_1 t450 _ ?side1 ?side2 A21.out).mono ?_); (case side1 => repeat (first | exact (Kd.C_below HR0_1.out HB.out) | (with_reducible refine Kd.C_alloc ?_ _) | (with_reducible refine Kd.C_drewN ?_ _) | (with_reducible refine Kd.C_drew ?_))); (case side2 => exact HC0_1.out); rintro e w28 ⟨rfl, hb⟩; refine ⟨_, rfl, ?_⟩; have n0_ := Aside0.mk (Kd.R_below (by (with_reducible repeat (first | apply Kd.R_alloc | apply Kd.R_drewN | apply Kd.R_drew)); exact HO449.out) hb); have n1_ := Aside0.mk (blk_below (g := gb443) (o := .cells #[.int .i64 a0_0, .slice A0_1 l0_1.length c0_1] 39 (0, 0)) (by (with_reducible repeat (first | refine blk_drewN ?_ _ | refine blk_drew ?_ | refine blk_alloc ?_ _)); exact BK443.out) hb); have n2_ := Aside0.mk (below_step (by repeat (first | (with_reducible first | exact HB.out | apply below_alloc | apply pw_below_drewN | apply below_drew1 | refine below_set ?_ GE443.out) | exact HB.out)) hb); clear HO449; clear BK443; clear HB; have HO449 := n0_; have BK443 := n1_; have HB := n2_; clear n0_ n1_ n2_; (try clear hb); (try clear hb2); (try clear hk); (try clear hi); obtain ⟨Ao29, co29, eo29⟩ := Kd.R_slice HO449.out; subst eo29))
              go_meet
              case rel => exact ⟨_, (decide ((t447.length : Int) > 4)), (by first | rfl | (simp; done) | (simp [*]; done)), H', ⟨by have := HJ2.out; first | omega | exact Nat.le_refl _⟩, ⟨by (with_reducible repeat (first | refine blk_drewN ?_ _ | refine blk_drew ?_ | refine blk_alloc ?_ _)); exact BK443.out⟩, ⟨by repeat (first | (with_reducible first | exact HB.out | apply below_alloc | apply pw_below_drewN | apply below_drew1 | refine below_set ?_ GE443.out) | exact HB.out)⟩⟩
          · rw [if_neg c22] at H
            have c22b0 : ((t450.size : Int) == (wrap64 ((wrap64 (3 * (t447.length : Int))) - 2))) = false := beq_eq_false_iff_ne.mpr c22
            have c22b1 : ((t450.size : Int) != (wrap64 ((wrap64 (3 * (t447.length : Int))) - 2))) = true := bne_iff_ne.mpr c22
            (first | rw [c22b0] | (simp only [i64_w, i32_w]; rw [c22b0]) | skip)
            have H' := Aside0.mk H
            clear H
            have hcz30_0 : w20.cell? ⟨gb443, 0, none⟩ = some (.int .i64 a0_0) := (blk_cell BK443.out 0).trans rfl
            have hcz30_1 : w20.cell? ⟨gb443, 1, none⟩ = some (.slice A0_1 l0_1.length c0_1) := (blk_cell BK443.out 1).trans rfl
            have hfz30_0 := blk_frozen BK443.out 0
            have hfz30_1 := blk_frozen BK443.out 1
            go_wp2_with (first | ((with_reducible refine gate_callee (f := 37) rfl ?_); refine goesL_ (some 24) rfl rfl Try.func37 (by kernel_rfl) rfl #[.agg #[.int .i64 a0_0, .slice A0_1 l0_1.length c0_1]] rfl (by (try simp only [List.map_toArray, List.map_cons, List.map_nil]); first | done | rfl | (simp only [List.length_drop, List.length_take]; rfl)) ?_; (with_reducible refine (tree_Text.calls kj2 a0_0 _ _ l0_1 t450 _ ?side1 ?side2 A21.out).mono ?_); (case side1 => repeat (first | exact (Kd.C_below HR0_1.out HB.out) | (with_reducible refine Kd.C_alloc ?_ _) | (with_reducible refine Kd.C_drewN ?_ _) | (with_reducible refine Kd.C_drew ?_))); (case side2 => exact HC0_1.out); rintro e w31 ⟨rfl, hb⟩; refine ⟨_, rfl, ?_⟩; have n0_ := Aside0.mk (Kd.R_below (by (with_reducible repeat (first | apply Kd.R_alloc | apply Kd.R_drewN | apply Kd.R_drew)); exact HO449.out) hb); have n1_ := Aside0.mk (blk_below (g := gb443) (o := .cells #[.int .i64 a0_0, .slice A0_1 l0_1.length c0_1] 39 (0, 0)) (by (with_reducible repeat (first | refine blk_drewN ?_ _ | refine blk_drew ?_ | refine blk_alloc ?_ _)); exact BK443.out) hb); have n2_ := Aside0.mk (below_step (by repeat (first | (with_reducible first | exact HB.out | apply below_alloc | apply pw_below_drewN | apply below_drew1 | refine below_set ?_ GE443.out) | exact HB.out)) hb); clear HO449; clear BK443; clear HB; have HO449 := n0_; have BK443 := n1_; have HB := n2_; clear n0_ n1_ n2_; (try clear hb); (try clear hb2); (try clear hk); (try clear hi); obtain ⟨Ao32, co32, eo32⟩ := Kd.R_slice HO449.out; subst eo32))
            go_meet
            case rel => exact ⟨_, (true), (by first | rfl | (simp; done) | (simp [*]; done)), H', ⟨by have := HJ2.out; first | omega | exact Nat.le_refl _⟩, ⟨by (with_reducible repeat (first | refine blk_drewN ?_ _ | refine blk_drew ?_ | refine blk_alloc ?_ _)); exact BK443.out⟩, ⟨by repeat (first | (with_reducible first | exact HB.out | apply below_alloc | apply pw_below_drewN | apply below_drew1 | refine below_set ?_ GE443.out) | exact HB.out)⟩⟩
        case rest =>
          clear HC18
          try clear c1
          try clear c2
          try clear p2
          try clear c3
          try clear c4
          try clear c6
          try clear p6
          try clear c8
          try clear c8b0
          try clear c12
          try clear c16
          try clear c22
          try clear c22b0
          try clear c22b1
          try clear c23
          try clear c23b0
          try clear c23b1
          try clear c29
          try clear hcz12_0
          try clear hcz12_1
          try clear hcz14_0
          try clear hcz14_1
          try clear hcz19_0
          try clear hcz19_1
          try clear hcz24_0
          try clear hcz24_1
          try clear hcz27_0
          try clear hcz27_1
          try clear hcz30_0
          try clear hcz30_1
          try clear hcz9_0
          try clear hcz9_1
          try clear hfz12_0
          try clear hfz12_1
          try clear hfz14_0
          try clear hfz14_1
          try clear hfz19_0
          try clear hfz19_1
          try clear hfz24_0
          try clear hfz24_1
          try clear hfz27_0
          try clear hfz27_1
          try clear hfz30_0
          try clear hfz30_1
          try clear hfz9_0
          try clear hfz9_1
          try clear p2
          obtain ⟨kq, x40_17, rfl, HA, HJ17, BK443, HB⟩ := hcut
          cases kq with
          | zero => exact absurd HA.out (by simp [roadbooklaw06_TreeParts.j1])
          | succ kj17 =>
            have H := HA.out
            clear HA
            simp only [roadbooklaw06_TreeParts.j1] at H
            by_cases c33 : x40_17 = true
            · subst c33
              have H1 : (none) = some r := by rw [if_pos rfl] at H; exact H
              clear H
              have H := H1
              clear H1
              exact absurd H (by simp)
            · replace c33 := Bool.eq_false_iff.mpr c33
              subst c33
              have H1 : (if (l0_1.length : Int) = 0 then ((tree_Leaf.f a0_0).bind fun bt451 => ((tree_Same.f kj17 a0_0 l0_1 bt451.1 bt451.2).bind fun t455 => (some t455))) else (if 0 < (l0_1.length : Int) then ((tree_Set.f kj17 ((rd_T39 l0_1 0).f0) ((rd_T39 l0_1 0).f1)).bind fun t457 => (if 1 < (l0_1.length : Int) then ((tree_Set.f kj17 ((rd_T39 l0_1 1).f0) ((rd_T39 l0_1 1).f1)).bind fun t459 => (if t457 > 0 then (if t459 > 0 then (if (Go.bits .and .i64 t457 t459) = 0 then ((tree_Set.f kj17 a0_0 l0_1).bind fun t460 => (if (Go.bits .or .i64 t457 t459) = t460 then ((tree_Join.f ((rd_T39 l0_1 0).f0) ((rd_T39 l0_1 0).f1) ((rd_T39 l0_1 1).f0) ((rd_T39 l0_1 1).f1)).bind fun bt463 => ((tree_Same.f kj17 a0_0 l0_1 bt463.1 bt463.2).bind fun t467 => (some t467))) else (none))) else (none)) else (none)) else (none))) else (none))) else (none))) = some r := by rw [if_neg (show ¬ (false = true) by decide)] at H; exact H
              clear H
              have H := H1
              clear H1
              by_cases c34 : (l0_1.length : Int) = 0
              · rw [if_pos c34] at H
                have c34b0 : ((l0_1.length : Int) == 0) = true := beq_iff_eq.mpr c34
                have c34b1 : ((l0_1.length : Int) != 0) = false := bne_eq_false_iff_eq.mpr c34
                clear c34
                replace H := Option.bind_eq_some_iff.mp H
                obtain ⟨⟨t451, t452⟩, A350, H⟩ := H
                replace H : ((tree_Same.f kj17 a0_0 l0_1 t451 t452).bind fun t455 => (some t455)) = some r := H
                have A35 := Aside0.mk A350
                clear A350
                replace H := Option.bind_eq_some_iff.mp H
                obtain ⟨t455, A360, H⟩ := H
                replace H : (some t455) = some r := H
                have A36 := Aside0.mk A360
                clear A360
                obtain rfl := Option.some.inj H
                have hcz37_0 : wc.cell? ⟨gb443, 0, none⟩ = some (.int .i64 a0_0) := (blk_cell BK443.out 0).trans rfl
                have hcz37_1 : wc.cell? ⟨gb443, 1, none⟩ = some (.slice A0_1 l0_1.length c0_1) := (blk_cell BK443.out 1).trans rfl
                have hfz37_0 := blk_frozen BK443.out 0
                have hfz37_1 := blk_frozen BK443.out 1
                try go_wp2
                have n0_ := Aside0.mk (blk_drew BK443.out)
                have n1_ := Aside0.mk (below_drew1 HB.out)
                clear BK443
                clear HB
                have BK443 := n0_
                have HB := n1_
                clear n0_ n1_
                refine start_ (n := 6) (S := fun w' => w'.cell? ⟨gb443, 0, none⟩ = some (.int .i64 a0_0) ∧ w'.cell? ⟨gb443, 1, none⟩ = some (.slice A0_1 l0_1.length c0_1)) (ds := []) #[false, false, false, false, false, false] (by kernel_rfl) rfl rfl ⟨(blk_cell BK443.out 0).trans rfl, (blk_cell BK443.out 1).trans rfl⟩ (fun hHeld => ?_)
                generalize wc.drew = w38 at BK443 HB hHeld ⊢
                refine pure_ (i := 1) (N := some 46) (v := ?_) (a' := ?_) #[false, true, false, false, false, false] rfl rfl (by kernel_rfl) (fun _ _ _ h => h) (Or.inl ⟨by rfl, ?_⟩) ?_ ?_
                rotate_left
                · intro w'
                  go_simp
                  with_reducible rfl
                rotate_left
                · simp only [Act.put, List.setIfInBounds_toArray, List.set_cons_zero, List.set_cons_succ, i64_w, i32_w]
                  rfl
                refine take_ (i := 0) (N := some 45) (v := ?_) (a' := ?_) #[true, true, false, false, false, false] rfl rfl (by kernel_rfl) (fun _ _ _ h => h) (Or.inl ⟨by rfl, ?_⟩) hHeld ?_ ?_
                rotate_left
                · rintro w' ⟨s0, s1⟩
                  go_simp
                  with_reducible rfl
                rotate_left
                · simp only [Act.put, List.setIfInBounds_toArray, List.set_cons_zero, List.set_cons_succ, i64_w, i32_w]
                  rfl
                refine take_ (i := 2) (N := some 47) (v := ?_) (a' := ?_) #[true, true, true, false, false, false] rfl rfl (by kernel_rfl) (fun _ _ _ h => h) (Or.inl ⟨by rfl, ?_⟩) hHeld ?_ ?_
                rotate_left
                · rintro w' ⟨s0, s1⟩
                  go_simp
                  with_reducible rfl
                rotate_left
                · simp only [Act.put, List.setIfInBounds_toArray, List.set_cons_zero, List.set_cons_succ, i64_w, i32_w]
                  rfl
                refine one_ (i := 3) (N := some 48) #[true, true, true, true, false, false] rfl rfl (by kernel_rfl) (by decide) (fun K hK => ?_)
                refine goes_ Try.func43 (by kernel_rfl) rfl #[.int .i64 a0_0] (by rfl) rfl rfl (by (try simp only [List.map_toArray, List.map_cons, List.map_nil]); first | done | rfl | (simp only [List.length_drop, List.length_take]; rfl)) ?_
                with_reducible refine (tree_Leaf.calls a0_0 t451 t452 _ A35.out).mono ?_
                rintro e w39 ⟨v453, rfl, ho0, hb⟩
                refine ⟨_, rfl, ?_⟩
                have n0_ := Aside0.mk (Kd.N_lower (Kd.N_mono (ok' := fun k_ => k_ ≠ gb443) (Kd.R_N (Kd.R_bound ho0)) (fun k_ hk_ => (Kd.freshB (g := gb443) (o := .cells #[.int .i64 a0_0, .slice A0_1 l0_1.length c0_1] 39 (0, 0)) (by (with_reducible repeat (first | refine blk_drewN ?_ _ | refine blk_drew ?_ | refine blk_alloc ?_ _)); exact BK443.out) k_ hk_.2.1))) (below_size (by repeat (first | (with_reducible first | exact HB.out | apply below_alloc | apply pw_below_drewN | apply below_drew1 | refine below_set ?_ GE443.out) | exact HB.out))))
                have n1_ := Aside0.mk (blk_below (g := gb443) (o := .cells #[.int .i64 a0_0, .slice A0_1 l0_1.length c0_1] 39 (0, 0)) (by (with_reducible repeat (first | refine blk_drewN ?_ _ | refine blk_drew ?_ | refine blk_alloc ?_ _)); exact BK443.out) hb)
                have n2_ := Aside0.mk (below_step (by repeat (first | (with_reducible first | exact HB.out | apply below_alloc | apply pw_below_drewN | apply below_drew1 | refine below_set ?_ GE443.out) | exact HB.out)) hb)
                clear BK443
                clear HB
                have HO454 := n0_
                have BK443 := n1_
                have HB := n2_
                clear n0_ n1_ n2_
                (try clear hb)
                (try clear hb2)
                (try clear hk)
                (try clear hi)
                (try clear ho0)
                obtain ⟨Ao40, co40, eo40⟩ := Kd.N_slice HO454.out
                (first | subst eo40 | (injection eo40 with f1_ f2_ f3_; have f4_ := f1_.symm; have f5_ := f3_.symm; clear f1_ f2_ f3_; subst f4_; subst f5_))
                refine hK.out _ _ ⟨(blk_cell BK443.out 0).trans rfl, (blk_cell BK443.out 1).trans rfl⟩ (fun hHeld => ?_)
                clear hK K
                refine norm_ (a' := ?_) ?_ ?_
                rotate_left
                · show Act.put _ (some 48) _ = _
                  simp only [Act.put, List.setIfInBounds_toArray, List.set_cons_zero, List.set_cons_succ, i64_w, i32_w]
                  rfl
                refine one_ (i := 4) (N := some 49) #[true, true, true, true, true, false] rfl rfl (by kernel_rfl) (by decide) (fun K hK => ?_)
                refine goes_ Try.func39 (by kernel_rfl) rfl #[.agg #[.int .i64 a0_0, .slice A0_1 l0_1.length c0_1], .agg #[.int .i64 t451, .slice Ao40 t452.length co40]] (by rfl) rfl rfl (by (try simp only [List.map_toArray, List.map_cons, List.map_nil]); first | done | rfl | (simp only [List.length_drop, List.length_take]; rfl)) ?_
                with_reducible refine (tree_Same.calls kj17 a0_0 _ _ l0_1 t451 _ _ t452 t455 _ ?side1 ?side2 ?side3 ?side4 A36.out).mono ?_
                (case side1 => repeat (first | exact (Kd.C_below HR0_1.out HB.out) | (with_reducible refine Kd.C_alloc ?_ _) | (with_reducible refine Kd.C_drewN ?_ _) | (with_reducible refine Kd.C_drew ?_)))
                (case side2 => exact HC0_1.out)
                (case side3 => repeat (first | exact (Kd.N_reads' HO454.out).2.2 | (with_reducible refine Kd.C_alloc ?_ _) | (with_reducible refine Kd.C_drewN ?_ _) | (with_reducible refine Kd.C_drew ?_)))
                (case side4 => exact (Kd.N_reads' HO454.out).2.1)
                rintro e w41 ⟨rfl, hb⟩
                refine ⟨_, rfl, ?_⟩
                have n0_ := Aside0.mk (Kd.N_below (by (with_reducible repeat (first | apply Kd.N_alloc | apply Kd.N_drewN | apply Kd.N_drew)); exact HO454.out) hb)
                have n1_ := Aside0.mk (blk_below (g := gb443) (o := .cells #[.int .i64 a0_0, .slice A0_1 l0_1.length c0_1] 39 (0, 0)) (by (with_reducible repeat (first | refine blk_drewN ?_ _ | refine blk_drew ?_ | refine blk_alloc ?_ _)); exact BK443.out) hb)
                have n2_ := Aside0.mk (below_step (by repeat (first | (with_reducible first | exact HB.out | apply below_alloc | apply pw_below_drewN | apply below_drew1 | refine below_set ?_ GE443.out) | exact HB.out)) hb)
                clear HO454
                clear BK443
                clear HB
                have HO454 := n0_
                have BK443 := n1_
                have HB := n2_
                clear n0_ n1_ n2_
                (try clear hb)
                (try clear hb2)
                (try clear hk)
                (try clear hi)
                refine hK.out _ _ ⟨(blk_cell BK443.out 0).trans rfl, (blk_cell BK443.out 1).trans rfl⟩ (fun hHeld => ?_)
                clear hK K
                refine norm_ (a' := ?_) ?_ ?_
                rotate_left
                · show Act.put _ (some 49) _ = _
                  simp only [Act.put, List.setIfInBounds_toArray, List.set_cons_zero, List.set_cons_succ, i64_w, i32_w]
                  rfl
                refine pure_ (i := 5) (N := some 2) (v := ?_) (a' := ?_) #[true, true, true, true, true, true] rfl rfl (by kernel_rfl) (fun _ _ _ h => h) (Or.inl ⟨by rfl, ?_⟩) ?_ ?_
                rotate_left
                · intro w'
                  go_simp
                  with_reducible rfl
                rotate_left
                · simp only [Act.put, List.setIfInBounds_toArray, List.set_cons_zero, List.set_cons_succ, i64_w, i32_w]
                  rfl
                refine done_ (by kernel_rfl) ?_
                try go_wp2
                go_ret
                exact ⟨by first | rfl | (simp [errW_none, errW_some] <;> rfl) | (simp [*, errW_none, errW_some] <;> rfl) | (clear HB; simp only [aside0_iff] at *; simp_all; done), by repeat (first | (with_reducible first | exact HB.out | apply below_alloc | apply pw_below_drewN | apply below_drew1 | refine below_set ?_ GE443.out) | exact HB.out)⟩
              · rw [if_neg c34] at H
                have c34b0 : ((l0_1.length : Int) == 0) = false := beq_eq_false_iff_ne.mpr c34
                have c34b1 : ((l0_1.length : Int) != 0) = true := bne_iff_ne.mpr c34
                have c34b2 : ¬ (l0_1 = []) := fun h_ => c34 (by rw [h_]; rfl)
                by_cases c42 : 0 < (l0_1.length : Int)
                · rw [if_pos c42] at H
                  have c42b0 : decide (0 < (l0_1.length : Int)) = true := decide_eq_true c42
                  have c42b1 : decide (0 < l0_1.length) = true := decide_eq_true (by omega)
                  clear c42
                  replace H := Option.bind_eq_some_iff.mp H
                  obtain ⟨t457, A430, H⟩ := H
                  replace H : (if 1 < (l0_1.length : Int) then ((tree_Set.f kj17 ((rd_T39 l0_1 1).f0) ((rd_T39 l0_1 1).f1)).bind fun t459 => (if t457 > 0 then (if t459 > 0 then (if (Go.bits .and .i64 t457 t459) = 0 then ((tree_Set.f kj17 a0_0 l0_1).bind fun t460 => (if (Go.bits .or .i64 t457 t459) = t460 then ((tree_Join.f ((rd_T39 l0_1 0).f0) ((rd_T39 l0_1 0).f1) ((rd_T39 l0_1 1).f0) ((rd_T39 l0_1 1).f1)).bind fun bt463 => ((tree_Same.f kj17 a0_0 l0_1 bt463.1 bt463.2).bind fun t467 => (some t467))) else (none))) else (none)) else (none)) else (none))) else (none)) = some r := H
                  have A43 := Aside0.mk A430
                  clear A430
                  by_cases c44 : 1 < (l0_1.length : Int)
                  · rw [if_pos c44] at H
                    have c44b0 : decide (1 < (l0_1.length : Int)) = true := decide_eq_true c44
                    have c44b1 : decide (1 < l0_1.length) = true := decide_eq_true (by omega)
                    clear c44
                    replace H := Option.bind_eq_some_iff.mp H
                    obtain ⟨t459, A450, H⟩ := H
                    replace H : (if t457 > 0 then (if t459 > 0 then (if (Go.bits .and .i64 t457 t459) = 0 then ((tree_Set.f kj17 a0_0 l0_1).bind fun t460 => (if (Go.bits .or .i64 t457 t459) = t460 then ((tree_Join.f ((rd_T39 l0_1 0).f0) ((rd_T39 l0_1 0).f1) ((rd_T39 l0_1 1).f0) ((rd_T39 l0_1 1).f1)).bind fun bt463 => ((tree_Same.f kj17 a0_0 l0_1 bt463.1 bt463.2).bind fun t467 => (some t467))) else (none))) else (none)) else (none)) else (none)) = some r := H
                    have A45 := Aside0.mk A450
                    clear A450
                    by_cases c46 : t457 > 0
                    · rw [if_pos c46] at H
                      have c46b0 : decide (0 < t457) = true := decide_eq_true c46
                      clear c46
                      by_cases c47 : t459 > 0
                      · rw [if_pos c47] at H
                        have c47b0 : decide (0 < t459) = true := decide_eq_true c47
                        clear c47
                        by_cases c48 : (Go.bits .and .i64 t457 t459) = 0
                        · rw [if_pos c48] at H
                          have c48b0 : ((Go.bits .and .i64 t457 t459) == 0) = true := beq_iff_eq.mpr c48
                          have c48b1 : ((Go.bits .and .i64 t457 t459) != 0) = false := bne_eq_false_iff_eq.mpr c48
                          clear c48
                          replace H := Option.bind_eq_some_iff.mp H
                          obtain ⟨t460, A490, H⟩ := H
                          replace H : (if (Go.bits .or .i64 t457 t459) = t460 then ((tree_Join.f ((rd_T39 l0_1 0).f0) ((rd_T39 l0_1 0).f1) ((rd_T39 l0_1 1).f0) ((rd_T39 l0_1 1).f1)).bind fun bt463 => ((tree_Same.f kj17 a0_0 l0_1 bt463.1 bt463.2).bind fun t467 => (some t467))) else (none)) = some r := H
                          have A49 := Aside0.mk A490
                          clear A490
                          by_cases c50 : (Go.bits .or .i64 t457 t459) = t460
                          · rw [if_pos c50] at H
                            have c50b0 : ((Go.bits .or .i64 t457 t459) == t460) = true := beq_iff_eq.mpr c50
                            have c50b1 : ((Go.bits .or .i64 t457 t459) != t460) = false := bne_eq_false_iff_eq.mpr c50
                            clear c50
                            replace H := Option.bind_eq_some_iff.mp H
                            obtain ⟨⟨t463, t464⟩, A510, H⟩ := H
                            replace H : ((tree_Same.f kj17 a0_0 l0_1 t463 t464).bind fun t467 => (some t467)) = some r := H
                            have A51 := Aside0.mk A510
                            clear A510
                            replace H := Option.bind_eq_some_iff.mp H
                            obtain ⟨t467, A520, H⟩ := H
                            replace H : (some t467) = some r := H
                            have A52 := Aside0.mk A520
                            clear A520
                            obtain rfl := Option.some.inj H
                            have hcz53_0 : wc.cell? ⟨gb443, 0, none⟩ = some (.int .i64 a0_0) := (blk_cell BK443.out 0).trans rfl
                            have hcz53_1 : wc.cell? ⟨gb443, 1, none⟩ = some (.slice A0_1 l0_1.length c0_1) := (blk_cell BK443.out 1).trans rfl
                            have hfz53_0 := blk_frozen BK443.out 0
                            have hfz53_1 := blk_frozen BK443.out 1
                            have p456 : 0 ≤ (0 : Int) := (by omega)
                            have q456 : 0 < (l0_1.length : Int) := of_decide_eq_true (by first | (with_reducible assumption) | assumption)
                            obtain ⟨ad456, A456_1, c456_1, e456, hx456_0, hx456_1, hl456_1, hi456_1⟩ := at_T39 HR0_1.out 0 p456 q456
                            cases e456
                            have qi456 : (0 < l0_1.length) = True := eq_true (by omega)
                            (try rw [show ((0 : Int)).toNat = 0 from rfl] at hx456_0)
                            (try rw [show 0 * 2 = 0 from rfl] at hx456_0)
                            (try rw [Addr.add_zero'] at hx456_0)
                            (try rw [show ((0 : Int)).toNat = 0 from rfl] at hx456_1)
                            (try rw [show 0 * 2 = 0 from rfl] at hx456_1)
                            (try rw [Addr.add_zero'] at hx456_1)
                            replace hx456_0 := (HB.out.cell (World.block_lt_of_cell? w _ hx456_0)).trans hx456_0
                            replace hx456_1 := (HB.out.cell (World.block_lt_of_cell? w _ hx456_1)).trans hx456_1
                            have HR456_1 := Aside0.mk hi456_1
                            have HC456_1 := Aside0.mk hl456_1
                            clear hi456_1 hl456_1
                            replace p456 := eq_true p456
                            replace q456 := eq_true q456
                            try go_wp2_with (first | ((with_reducible refine gate_callee (f := 35) rfl ?_); refine goesL_ (some 54) rfl rfl Try.func35 (by kernel_rfl) rfl #[.agg #[.int .i64 ((rd_T39 l0_1 0).f0), .slice A456_1 ((rd_T39 l0_1 0).f1).length c456_1]] rfl (by (try simp only [List.map_toArray, List.map_cons, List.map_nil]); first | done | rfl | (simp only [List.length_drop, List.length_take]; rfl)) ?_; (with_reducible refine (tree_Set.calls kj17 ((rd_T39 l0_1 0).f0) _ _ ((rd_T39 l0_1 0).f1) t457 _ ?side1 ?side2 A43.out).mono ?_); (case side1 => repeat (first | exact (Kd.C_below HR456_1.out HB.out) | (with_reducible refine Kd.C_alloc ?_ _) | (with_reducible refine Kd.C_drewN ?_ _) | (with_reducible refine Kd.C_drew ?_))); (case side2 => exact HC456_1.out); rintro e w54 ⟨rfl, hb⟩; refine ⟨_, rfl, ?_⟩; have n0_ := Aside0.mk (blk_below (g := gb443) (o := .cells #[.int .i64 a0_0, .slice (some ad456) l0_1.length c0_1] 39 (0, 0)) (by (with_reducible repeat (first | refine blk_drewN ?_ _ | refine blk_drew ?_ | refine blk_alloc ?_ _)); exact BK443.out) hb); have n1_ := Aside0.mk (below_step (by repeat (first | (with_reducible first | exact HB.out | apply below_alloc | apply pw_below_drewN | apply below_drew1 | refine below_set ?_ GE443.out) | exact HB.out)) hb); clear BK443; clear HB; have BK443 := n0_; have HB := n1_; clear n0_ n1_; (try clear hb); (try clear hb2); (try clear hk); (try clear hi); have hcz55_0 : w54.cell? ⟨gb443, 0, none⟩ = some (.int .i64 a0_0) := (blk_cell BK443.out 0).trans rfl; have hcz55_1 : w54.cell? ⟨gb443, 1, none⟩ = some (.slice (some ad456) l0_1.length c0_1) := (blk_cell BK443.out 1).trans rfl; have hfz55_0 := blk_frozen BK443.out 0; have hfz55_1 := blk_frozen BK443.out 1; have p458 : 0 ≤ (1 : Int) := (by omega); have q458 : 1 < (l0_1.length : Int) := of_decide_eq_true (by first | (with_reducible assumption) | assumption); obtain ⟨ad458, A458_1, c458_1, e458, hx458_0, hx458_1, hl458_1, hi458_1⟩ := at_T39 HR0_1.out 1 p458 q458; obtain rfl : ad456 = ad458 := (by injection e458); (try simp only [show (1 : Int).toNat = 1 from rfl, Nat.reduceMul, Nat.reduceEqDiff, Go.Addr.add, ↓reduceIte] at hx458_0); (try simp only [show (1 : Int).toNat = 1 from rfl, Nat.reduceMul, Nat.reduceEqDiff, Go.Addr.add, ↓reduceIte] at hx458_1); have qi458 : (1 < l0_1.length) = True := eq_true (by omega); (try rw [show ((1 : Int)).toNat = 1 from rfl] at hx458_0); (try rw [show 1 * 2 = 2 from rfl] at hx458_0); (try rw [show ((1 : Int)).toNat = 1 from rfl] at hx458_1); (try rw [show 1 * 2 = 2 from rfl] at hx458_1); replace hx458_0 := (HB.out.cell (World.block_lt_of_cell? w _ hx458_0)).trans hx458_0; replace hx458_1 := (HB.out.cell (World.block_lt_of_cell? w _ hx458_1)).trans hx458_1; have HR458_1 := Aside0.mk hi458_1; have HC458_1 := Aside0.mk hl458_1; clear hi458_1 hl458_1; replace p458 := eq_true p458; replace q458 := eq_true q458) | ((with_reducible refine gate_callee (f := 35) rfl ?_); refine goesL_ (some 59) rfl rfl Try.func35 (by kernel_rfl) rfl #[.agg #[.int .i64 ((rd_T39 l0_1 1).f0), .slice A458_1 ((rd_T39 l0_1 1).f1).length c458_1]] rfl (by (try simp only [List.map_toArray, List.map_cons, List.map_nil]); first | done | rfl | (simp only [List.length_drop, List.length_take]; rfl)) ?_; (with_reducible refine (tree_Set.calls kj17 ((rd_T39 l0_1 1).f0) _ _ ((rd_T39 l0_1 1).f1) t459 _ ?side1 ?side2 A45.out).mono ?_); (case side1 => repeat (first | exact (Kd.C_below HR458_1.out HB.out) | (with_reducible refine Kd.C_alloc ?_ _) | (with_reducible refine Kd.C_drewN ?_ _) | (with_reducible refine Kd.C_drew ?_))); (case side2 => exact HC458_1.out); rintro e w56 ⟨rfl, hb⟩; refine ⟨_, rfl, ?_⟩; have n0_ := Aside0.mk (blk_below (g := gb443) (o := .cells #[.int .i64 a0_0, .slice (some ad456) l0_1.length c0_1] 39 (0, 0)) (by (with_reducible repeat (first | refine blk_drewN ?_ _ | refine blk_drew ?_ | refine blk_alloc ?_ _)); exact BK443.out) hb); have n1_ := Aside0.mk (below_step (by repeat (first | (with_reducible first | exact HB.out | apply below_alloc | apply pw_below_drewN | apply below_drew1 | refine below_set ?_ GE443.out) | exact HB.out)) hb); clear BK443; clear HB; have BK443 := n0_; have HB := n1_; clear n0_ n1_; (try clear hb); (try clear hb2); (try clear hk); (try clear hi)))
                            have n0_ := Aside0.mk (blk_drew BK443.out)
                            have n1_ := Aside0.mk (below_drew1 HB.out)
                            clear BK443
                            clear HB
                            have BK443 := n0_
                            have HB := n1_
                            clear n0_ n1_
                            have p461 : 0 ≤ (0 : Int) := (by omega)
                            have q461 : 0 < (l0_1.length : Int) := of_decide_eq_true (by first | (with_reducible assumption) | assumption)
                            obtain ⟨ad461, A461_1, c461_1, e461, hx461_0, hx461_1, hl461_1, hi461_1⟩ := at_T39 HR0_1.out 0 p461 q461
                            have hw461_1 := hx461_1
                            (try rw [show ((0 : Int)).toNat = 0 from rfl] at hw461_1)
                            (try rw [show 0 * 2 = 0 from rfl] at hw461_1)
                            (try rw [Addr.add_zero'] at hw461_1)
                            have hw461_0 := hx461_0
                            (try rw [show ((0 : Int)).toNat = 0 from rfl] at hw461_0)
                            (try rw [show 0 * 2 = 0 from rfl] at hw461_0)
                            (try rw [Addr.add_zero'] at hw461_0)
                            obtain rfl : ad456 = ad461 := (by injection e461)
                            have qi461 : (0 < l0_1.length) = True := eq_true (by omega)
                            (try rw [show ((0 : Int)).toNat = 0 from rfl] at hx461_0)
                            (try rw [show 0 * 2 = 0 from rfl] at hx461_0)
                            (try rw [Addr.add_zero'] at hx461_0)
                            (try rw [show ((0 : Int)).toNat = 0 from rfl] at hx461_1)
                            (try rw [show 0 * 2 = 0 from rfl] at hx461_1)
                            (try rw [Addr.add_zero'] at hx461_1)
                            replace hx461_0 := (HB.out.cell (World.block_lt_of_cell? w _ hx461_0)).trans hx461_0
                            replace hx461_1 := (HB.out.cell (World.block_lt_of_cell? w _ hx461_1)).trans hx461_1
                            have HR461_1 := Aside0.mk hi461_1
                            have HC461_1 := Aside0.mk hl461_1
                            clear hi461_1 hl461_1
                            replace p461 := eq_true p461
                            replace q461 := eq_true q461
                            have p462 : 0 ≤ (1 : Int) := (by omega)
                            have q462 : 1 < (l0_1.length : Int) := of_decide_eq_true (by first | (with_reducible assumption) | assumption)
                            obtain ⟨ad462, A462_1, c462_1, e462, hx462_0, hx462_1, hl462_1, hi462_1⟩ := at_T39 HR0_1.out 1 p462 q462
                            have hw462_1 := hx462_1
                            (try rw [show ((1 : Int)).toNat = 1 from rfl] at hw462_1)
                            (try rw [show 1 * 2 = 2 from rfl] at hw462_1)
                            (try simp only [Nat.reduceMul, Nat.reduceEqDiff, Go.Addr.add, ↓reduceIte] at hw462_1)
                            have hw462_0 := hx462_0
                            (try rw [show ((1 : Int)).toNat = 1 from rfl] at hw462_0)
                            (try rw [show 1 * 2 = 2 from rfl] at hw462_0)
                            (try simp only [Nat.reduceMul, Nat.reduceEqDiff, Go.Addr.add, ↓reduceIte] at hw462_0)
                            obtain rfl : ad456 = ad462 := (by injection e462)
                            (try simp only [show (1 : Int).toNat = 1 from rfl, Nat.reduceMul, Nat.reduceEqDiff, Go.Addr.add, ↓reduceIte] at hx462_0)
                            (try simp only [show (1 : Int).toNat = 1 from rfl, Nat.reduceMul, Nat.reduceEqDiff, Go.Addr.add, ↓reduceIte] at hx462_1)
                            have qi462 : (1 < l0_1.length) = True := eq_true (by omega)
                            (try rw [show ((1 : Int)).toNat = 1 from rfl] at hx462_0)
                            (try rw [show 1 * 2 = 2 from rfl] at hx462_0)
                            (try rw [show ((1 : Int)).toNat = 1 from rfl] at hx462_1)
                            (try rw [show 1 * 2 = 2 from rfl] at hx462_1)
                            replace hx462_0 := (HB.out.cell (World.block_lt_of_cell? w _ hx462_0)).trans hx462_0
                            replace hx462_1 := (HB.out.cell (World.block_lt_of_cell? w _ hx462_1)).trans hx462_1
                            have HR462_1 := Aside0.mk hi462_1
                            have HC462_1 := Aside0.mk hl462_1
                            clear hi462_1 hl462_1
                            replace p462 := eq_true p462
                            replace q462 := eq_true q462
                            refine start_ (n := 34) (S := fun w' => w'.cell? ⟨gb443, 0, none⟩ = some (.int .i64 a0_0) ∧ w'.cell? ⟨gb443, 1, none⟩ = some (.slice (some ad456) l0_1.length c0_1) ∧ w'.cell? ad456 = some (.int .i64 ((rd_T39 l0_1 0).f0)) ∧ w'.cell? ⟨ad456.block, ad456.off + 1, none⟩ = some (.slice A461_1 ((rd_T39 l0_1 0).f1).length c461_1) ∧ w'.cell? ⟨ad456.block, ad456.off + 2, none⟩ = some (.int .i64 ((rd_T39 l0_1 1).f0)) ∧ w'.cell? ⟨ad456.block, ad456.off + 2 + 1, none⟩ = some (.slice A462_1 ((rd_T39 l0_1 1).f1).length c462_1)) (ds := []) #[false, false, false, false, false, false, false, false, false, false, false, false, false, false, false, false, false, false, false, false, false, false, false, false, false, false, false, false, false, false, false, false, false, false] (by kernel_rfl) rfl rfl ⟨(blk_cell BK443.out 0).trans rfl, (blk_cell BK443.out 1).trans rfl, ((HB.out.cell (World.block_lt_of_cell? w _ hw461_0)).trans hw461_0), ((HB.out.cell (World.block_lt_of_cell? w _ hw461_1)).trans hw461_1), ((HB.out.cell (World.block_lt_of_cell? w _ hw462_0)).trans hw462_0), ((HB.out.cell (World.block_lt_of_cell? w _ hw462_1)).trans hw462_1)⟩ (fun hHeld => ?_); refine with_tabW roadbooklaw06_TreeParts.tab11 roadbooklaw06_TreeParts.bits11 (fun HT_ HW_ => ?_)
                            generalize w56.drew = w57 at BK443 HB HR461_1 HR462_1 hx461_0 hx461_1 hx462_0 hx462_1 hHeld ⊢
                            refine pure_ (i := 0) (N := some 60) (v := ?_) (a' := ?_) #[true, false, false, false, false, false, false, false, false, false, false, false, false, false, false, false, false, false, false, false, false, false, false, false, false, false, false, false, false, false, false, false, false, false] rfl rfl (any_of HT_.out (by kernel_rfl)) (fun _ _ _ h => h) (Or.inl ⟨by rfl, ?_⟩) ?_ ?_
                            rotate_left
                            · intro w'
                              go_simp
                              with_reducible rfl
                            rotate_left
                            · simp only [Act.put, List.setIfInBounds_toArray, List.set_cons_zero, List.set_cons_succ, i64_w, i32_w]
                              rfl
                            refine pure_ (i := 1) (N := some 61) (v := ?_) (a' := ?_) #[true, true, false, false, false, false, false, false, false, false, false, false, false, false, false, false, false, false, false, false, false, false, false, false, false, false, false, false, false, false, false, false, false, false] rfl rfl (any_of HT_.out (by kernel_rfl)) (fun _ _ _ h => h) (Or.inl ⟨by rfl, ?_⟩) ?_ ?_
                            rotate_left
                            · intro w'
                              go_simp
                              with_reducible rfl
                            rotate_left
                            · simp only [Act.put, List.setIfInBounds_toArray, List.set_cons_zero, List.set_cons_succ, i64_w, i32_w]
                              rfl
                            refine pure_ (i := 2) (N := some 62) (v := ?_) (a' := ?_) #[true, true, true, false, false, false, false, false, false, false, false, false, false, false, false, false, false, false, false, false, false, false, false, false, false, false, false, false, false, false, false, false, false, false] rfl rfl (any_of HT_.out (by kernel_rfl)) (fun _ _ _ h => h) (Or.inl ⟨by rfl, ?_⟩) ?_ ?_
                            rotate_left
                            · intro w'
                              go_simp
                              with_reducible rfl
                            rotate_left
                            · simp only [Act.put, List.setIfInBounds_toArray, List.set_cons_zero, List.set_cons_succ, i64_w, i32_w]
                              rfl
                            refine pure_ (i := 3) (N := some 63) (v := ?_) (a' := ?_) #[true, true, true, true, false, false, false, false, false, false, false, false, false, false, false, false, false, false, false, false, false, false, false, false, false, false, false, false, false, false, false, false, false, false] rfl rfl (any_of HT_.out (by kernel_rfl)) (fun _ _ _ h => h) (Or.inl ⟨by rfl, ?_⟩) ?_ ?_
                            rotate_left
                            · intro w'
                              go_simp
                              with_reducible rfl
                            rotate_left
                            · simp only [Act.put, List.setIfInBounds_toArray, List.set_cons_zero, List.set_cons_succ, i64_w, i32_w]
                              rfl
                            refine pure_ (i := 4) (N := some 64) (v := ?_) (a' := ?_) #[true, true, true, true, true, false, false, false, false, false, false, false, false, false, false, false, false, false, false, false, false, false, false, false, false, false, false, false, false, false, false, false, false, false] rfl rfl (any_of HT_.out (by kernel_rfl)) (fun _ _ _ h => h) (Or.inl ⟨by rfl, ?_⟩) ?_ ?_
                            rotate_left
                            · intro w'
                              go_simp
                              with_reducible rfl
                            rotate_left
                            · simp only [Act.put, List.setIfInBounds_toArray, List.set_cons_zero, List.set_cons_succ, i64_w, i32_w]
                              rfl
                            refine pure_ (i := 5) (N := some 65) (v := ?_) (a' := ?_) #[true, true, true, true, true, true, false, false, false, false, false, false, false, false, false, false, false, false, false, false, false, false, false, false, false, false, false, false, false, false, false, false, false, false] rfl rfl (any_of HT_.out (by kernel_rfl)) (fun _ _ _ h => h) (Or.inl ⟨by rfl, ?_⟩) ?_ ?_
                            rotate_left
                            · intro w'
                              go_simp
                              with_reducible rfl
                            rotate_left
                            · simp only [Act.put, List.setIfInBounds_toArray, List.set_cons_zero, List.set_cons_succ, i64_w, i32_w]
                              rfl
                            refine pure_ (i := 6) (N := some 66) (v := ?_) (a' := ?_) #[true, true, true, true, true, true, true, false, false, false, false, false, false, false, false, false, false, false, false, false, false, false, false, false, false, false, false, false, false, false, false, false, false, false] rfl rfl (any_of HT_.out (by kernel_rfl)) (fun _ _ _ h => h) (Or.inl ⟨by rfl, ?_⟩) ?_ ?_
                            rotate_left
                            · intro w'
                              go_simp
                              with_reducible rfl
                            rotate_left
                            · simp only [Act.put, List.setIfInBounds_toArray, List.set_cons_zero, List.set_cons_succ, i64_w, i32_w]
                              rfl
                            refine pure_ (i := 7) (N := some 67) (v := ?_) (a' := ?_) #[true, true, true, true, true, true, true, true, false, false, false, false, false, false, false, false, false, false, false, false, false, false, false, false, false, false, false, false, false, false, false, false, false, false] rfl rfl (any_of HT_.out (by kernel_rfl)) (fun _ _ _ h => h) (Or.inl ⟨by rfl, ?_⟩) ?_ ?_
                            rotate_left
                            · intro w'
                              go_simp
                              with_reducible rfl
                            rotate_left
                            · simp only [Act.put, List.setIfInBounds_toArray, List.set_cons_zero, List.set_cons_succ, i64_w, i32_w]
                              rfl
                            refine pure_ (i := 8) (N := some 68) (v := ?_) (a' := ?_) #[true, true, true, true, true, true, true, true, true, false, false, false, false, false, false, false, false, false, false, false, false, false, false, false, false, false, false, false, false, false, false, false, false, false] rfl rfl (any_of HT_.out (by kernel_rfl)) (fun _ _ _ h => h) (Or.inl ⟨by rfl, ?_⟩) ?_ ?_
                            rotate_left
                            · intro w'
                              go_simp
                              with_reducible rfl
                            rotate_left
                            · simp only [Act.put, List.setIfInBounds_toArray, List.set_cons_zero, List.set_cons_succ, i64_w, i32_w]
                              rfl
                            refine pure_ (i := 9) (N := some 69) (v := ?_) (a' := ?_) #[true, true, true, true, true, true, true, true, true, true, false, false, false, false, false, false, false, false, false, false, false, false, false, false, false, false, false, false, false, false, false, false, false, false] rfl rfl (any_of HT_.out (by kernel_rfl)) (fun _ _ _ h => h) (Or.inl ⟨by rfl, ?_⟩) ?_ ?_
                            rotate_left
                            · intro w'
                              go_simp
                              with_reducible rfl
                            rotate_left
                            · simp only [Act.put, List.setIfInBounds_toArray, List.set_cons_zero, List.set_cons_succ, i64_w, i32_w]
                              rfl
                            refine pure_ (i := 10) (N := some 70) (v := ?_) (a' := ?_) #[true, true, true, true, true, true, true, true, true, true, true, false, false, false, false, false, false, false, false, false, false, false, false, false, false, false, false, false, false, false, false, false, false, false] rfl rfl (any_of HT_.out (by kernel_rfl)) (fun _ _ _ h => h) (Or.inl ⟨by rfl, ?_⟩) ?_ ?_
                            rotate_left
                            · intro w'
                              go_simp
                              with_reducible rfl
                            rotate_left
                            · simp only [Act.put, List.setIfInBounds_toArray, List.set_cons_zero, List.set_cons_succ, i64_w, i32_w]
                              rfl
                            refine pure_ (i := 11) (N := some 71) (v := ?_) (a' := ?_) #[true, true, true, true, true, true, true, true, true, true, true, true, false, false, false, false, false, false, false, false, false, false, false, false, false, false, false, false, false, false, false, false, false, false] rfl rfl (any_of HT_.out (by kernel_rfl)) (fun _ _ _ h => h) (Or.inl ⟨by rfl, ?_⟩) ?_ ?_
                            rotate_left
                            · intro w'
                              go_simp
                              with_reducible rfl
                            rotate_left
                            · simp only [Act.put, List.setIfInBounds_toArray, List.set_cons_zero, List.set_cons_succ, i64_w, i32_w]
                              rfl
                            refine pure_ (i := 12) (N := some 72) (v := ?_) (a' := ?_) #[true, true, true, true, true, true, true, true, true, true, true, true, true, false, false, false, false, false, false, false, false, false, false, false, false, false, false, false, false, false, false, false, false, false] rfl rfl (any_of HT_.out (by kernel_rfl)) (fun _ _ _ h => h) (Or.inl ⟨by rfl, ?_⟩) ?_ ?_
                            rotate_left
                            · intro w'
                              go_simp
                              with_reducible rfl
                            rotate_left
                            · simp only [Act.put, List.setIfInBounds_toArray, List.set_cons_zero, List.set_cons_succ, i64_w, i32_w]
                              rfl
                            refine pure_ (i := 13) (N := some 73) (v := ?_) (a' := ?_) #[true, true, true, true, true, true, true, true, true, true, true, true, true, true, false, false, false, false, false, false, false, false, false, false, false, false, false, false, false, false, false, false, false, false] rfl rfl (any_of HT_.out (by kernel_rfl)) (fun _ _ _ h => h) (Or.inl ⟨by rfl, ?_⟩) ?_ ?_
                            rotate_left
                            · intro w'
                              go_simp
                              with_reducible rfl
                            rotate_left
                            · simp only [Act.put, List.setIfInBounds_toArray, List.set_cons_zero, List.set_cons_succ, i64_w, i32_w]
                              rfl
                            refine pure_ (i := 14) (N := some 74) (v := ?_) (a' := ?_) #[true, true, true, true, true, true, true, true, true, true, true, true, true, true, true, false, false, false, false, false, false, false, false, false, false, false, false, false, false, false, false, false, false, false] rfl rfl (any_of HT_.out (by kernel_rfl)) (fun _ _ _ h => h) (Or.inl ⟨by rfl, ?_⟩) ?_ ?_
                            rotate_left
                            · intro w'
                              go_simp
                              with_reducible rfl
                            rotate_left
                            · simp only [Act.put, List.setIfInBounds_toArray, List.set_cons_zero, List.set_cons_succ, i64_w, i32_w]
                              rfl
                            refine pure_ (i := 15) (N := some 75) (v := ?_) (a' := ?_) #[true, true, true, true, true, true, true, true, true, true, true, true, true, true, true, true, false, false, false, false, false, false, false, false, false, false, false, false, false, false, false, false, false, false] rfl rfl (any_of HT_.out (by kernel_rfl)) (fun _ _ _ h => h) (Or.inl ⟨by rfl, ?_⟩) ?_ ?_
                            rotate_left
                            · intro w'
                              go_simp
                              with_reducible rfl
                            rotate_left
                            · simp only [Act.put, List.setIfInBounds_toArray, List.set_cons_zero, List.set_cons_succ, i64_w, i32_w]
                              rfl
                            refine take_ (i := 16) (N := some 76) (v := ?_) (a' := ?_) #[true, true, true, true, true, true, true, true, true, true, true, true, true, true, true, true, true, false, false, false, false, false, false, false, false, false, false, false, false, false, false, false, false, false] rfl rfl (take_ofW HT_.out HW_.out (by kernel_rfl)) (fun _ _ _ h => h) (Or.inl ⟨by rfl, ?_⟩) hHeld ?_ ?_
                            rotate_left
                            · rintro w' ⟨s0, s1, s2, s3, s4, s5⟩
                              go_simp
                              with_reducible rfl
                            rotate_left
                            · simp only [Act.put, List.setIfInBounds_toArray, List.set_cons_zero, List.set_cons_succ, i64_w, i32_w]
                              rfl
                            refine one_ (i := 17) (N := some 77) #[true, true, true, true, true, true, true, true, true, true, true, true, true, true, true, true, true, true, false, false, false, false, false, false, false, false, false, false, false, false, false, false, false, false] rfl rfl (one_of HT_.out (by kernel_rfl)) (by decide) (fun K hK => ?_)
                            refine goes_ Try.func35 (by kernel_rfl) rfl #[.agg #[.int .i64 a0_0, .slice (some ad456) l0_1.length c0_1]] (by rfl) rfl rfl (by (try simp only [List.map_toArray, List.map_cons, List.map_nil]); first | done | rfl | (simp only [List.length_drop, List.length_take]; rfl)) ?_
                            with_reducible refine (tree_Set.calls kj17 a0_0 _ _ l0_1 t460 _ ?side1 ?side2 A49.out).mono ?_
                            (case side1 => repeat (first | exact (Kd.C_below HR0_1.out HB.out) | (with_reducible refine Kd.C_alloc ?_ _) | (with_reducible refine Kd.C_drewN ?_ _) | (with_reducible refine Kd.C_drew ?_)))
                            (case side2 => exact HC0_1.out)
                            rintro e w58 ⟨rfl, hb⟩
                            refine ⟨_, rfl, ?_⟩
                            have n0_ := Aside0.mk (blk_below (g := gb443) (o := .cells #[.int .i64 a0_0, .slice (some ad456) l0_1.length c0_1] 39 (0, 0)) (by (with_reducible repeat (first | refine blk_drewN ?_ _ | refine blk_drew ?_ | refine blk_alloc ?_ _)); exact BK443.out) hb)
                            have n1_ := Aside0.mk (below_step (by repeat (first | (with_reducible first | exact HB.out | apply below_alloc | apply pw_below_drewN | apply below_drew1 | refine below_set ?_ GE443.out) | exact HB.out)) hb)
                            clear BK443
                            clear HB
                            have BK443 := n0_
                            have HB := n1_
                            clear n0_ n1_
                            (try clear hb)
                            (try clear hb2)
                            (try clear hk)
                            (try clear hi)
                            refine hK.out _ _ ⟨(blk_cell BK443.out 0).trans rfl, (blk_cell BK443.out 1).trans rfl, ((HB.out.cell (World.block_lt_of_cell? w _ hw461_0)).trans hw461_0), ((HB.out.cell (World.block_lt_of_cell? w _ hw461_1)).trans hw461_1), ((HB.out.cell (World.block_lt_of_cell? w _ hw462_0)).trans hw462_0), ((HB.out.cell (World.block_lt_of_cell? w _ hw462_1)).trans hw462_1)⟩ (fun hHeld => ?_)
                            clear hK K
                            refine norm_ (a' := ?_) ?_ ?_
                            rotate_left
                            · show Act.put _ (some 77) _ = _
                              simp only [Act.put, List.setIfInBounds_toArray, List.set_cons_zero, List.set_cons_succ, i64_w, i32_w]
                              rfl
                            refine pure_ (i := 18) (N := some 78) (v := ?_) (a' := ?_) #[true, true, true, true, true, true, true, true, true, true, true, true, true, true, true, true, true, true, true, false, false, false, false, false, false, false, false, false, false, false, false, false, false, false] rfl rfl (any_of HT_.out (by kernel_rfl)) (fun _ _ _ h => h) (Or.inl ⟨by rfl, ?_⟩) ?_ ?_
                            rotate_left
                            · intro w'
                              go_simp
                              with_reducible rfl
                            rotate_left
                            · simp only [Act.put, List.setIfInBounds_toArray, List.set_cons_zero, List.set_cons_succ, i64_w, i32_w]
                              rfl
                            refine pure_ (i := 19) (N := some 79) (v := ?_) (a' := ?_) #[true, true, true, true, true, true, true, true, true, true, true, true, true, true, true, true, true, true, true, true, false, false, false, false, false, false, false, false, false, false, false, false, false, false] rfl rfl (any_of HT_.out (by kernel_rfl)) (fun _ _ _ h => h) (Or.inl ⟨by rfl, ?_⟩) ?_ ?_
                            rotate_left
                            · intro w'
                              go_simp
                              with_reducible rfl
                            rotate_left
                            · simp only [Act.put, List.setIfInBounds_toArray, List.set_cons_zero, List.set_cons_succ, i64_w, i32_w]
                              rfl
                            refine pure_ (i := 20) (N := some 80) (v := ?_) (a' := ?_) #[true, true, true, true, true, true, true, true, true, true, true, true, true, true, true, true, true, true, true, true, true, false, false, false, false, false, false, false, false, false, false, false, false, false] rfl rfl (any_of HT_.out (by kernel_rfl)) (fun _ _ _ h => h) (Or.inl ⟨by rfl, ?_⟩) ?_ ?_
                            rotate_left
                            · intro w'
                              go_simp
                              with_reducible rfl
                            rotate_left
                            · simp only [Act.put, List.setIfInBounds_toArray, List.set_cons_zero, List.set_cons_succ, i64_w, i32_w]
                              rfl
                            refine pure_ (i := 22) (N := some 82) (v := ?_) (a' := ?_) #[true, true, true, true, true, true, true, true, true, true, true, true, true, true, true, true, true, true, true, true, true, false, true, false, false, false, false, false, false, false, false, false, false, false] rfl rfl (any_of HT_.out (by kernel_rfl)) (fun _ _ _ h => h) (Or.inl ⟨by rfl, ?_⟩) ?_ ?_
                            rotate_left
                            · intro w'
                              go_simp
                              with_reducible rfl
                            rotate_left
                            · simp only [Act.put, List.setIfInBounds_toArray, List.set_cons_zero, List.set_cons_succ, i64_w, i32_w]
                              rfl
                            refine pure_ (i := 26) (N := some 86) (v := ?_) (a' := ?_) #[true, true, true, true, true, true, true, true, true, true, true, true, true, true, true, true, true, true, true, true, true, false, true, false, false, false, true, false, false, false, false, false, false, false] rfl rfl (any_of HT_.out (by kernel_rfl)) (fun _ _ _ h => h) (Or.inl ⟨by rfl, ?_⟩) ?_ ?_
                            rotate_left
                            · intro w'
                              go_simp
                              with_reducible rfl
                            rotate_left
                            · simp only [Act.put, List.setIfInBounds_toArray, List.set_cons_zero, List.set_cons_succ, i64_w, i32_w]
                              rfl
                            refine take_ (i := 21) (N := some 81) (v := ?_) (a' := ?_) #[true, true, true, true, true, true, true, true, true, true, true, true, true, true, true, true, true, true, true, true, true, true, true, false, false, false, true, false, false, false, false, false, false, false] rfl rfl (take_ofW HT_.out HW_.out (by kernel_rfl)) (fun _ _ _ h => h) (Or.inl ⟨by rfl, ?_⟩) hHeld ?_ ?_
                            rotate_left
                            · rintro w' ⟨s0, s1, s2, s3, s4, s5⟩
                              go_simp
                              with_reducible rfl
                            rotate_left
                            · simp only [Act.put, List.setIfInBounds_toArray, List.set_cons_zero, List.set_cons_succ, i64_w, i32_w]
                              rfl
                            refine take_ (i := 23) (N := some 83) (v := ?_) (a' := ?_) #[true, true, true, true, true, true, true, true, true, true, true, true, true, true, true, true, true, true, true, true, true, true, true, true, false, false, true, false, false, false, false, false, false, false] rfl rfl (take_ofW HT_.out HW_.out (by kernel_rfl)) (fun _ _ _ h => h) (Or.inl ⟨by rfl, ?_⟩) hHeld ?_ ?_
                            rotate_left
                            · rintro w' ⟨s0, s1, s2, s3, s4, s5⟩
                              go_simp
                              with_reducible rfl
                            rotate_left
                            · simp only [Act.put, List.setIfInBounds_toArray, List.set_cons_zero, List.set_cons_succ, i64_w, i32_w]
                              rfl
                            refine pure_ (i := 24) (N := some 84) (v := ?_) (a' := ?_) #[true, true, true, true, true, true, true, true, true, true, true, true, true, true, true, true, true, true, true, true, true, true, true, true, true, false, true, false, false, false, false, false, false, false] rfl rfl (any_of HT_.out (by kernel_rfl)) (fun _ _ _ h => h) (Or.inl ⟨by rfl, ?_⟩) ?_ ?_
                            rotate_left
                            · intro w'
                              go_simp
                              with_reducible rfl
                            rotate_left
                            · simp only [Act.put, List.setIfInBounds_toArray, List.set_cons_zero, List.set_cons_succ, i64_w, i32_w]
                              rfl
                            refine take_ (i := 25) (N := some 85) (v := ?_) (a' := ?_) #[true, true, true, true, true, true, true, true, true, true, true, true, true, true, true, true, true, true, true, true, true, true, true, true, true, true, true, false, false, false, false, false, false, false] rfl rfl (take_ofW HT_.out HW_.out (by kernel_rfl)) (fun _ _ _ h => h) (Or.inl ⟨by rfl, ?_⟩) hHeld ?_ ?_
                            rotate_left
                            · rintro w' ⟨s0, s1, s2, s3, s4, s5⟩
                              go_simp
                              with_reducible rfl
                            rotate_left
                            · simp only [Act.put, List.setIfInBounds_toArray, List.set_cons_zero, List.set_cons_succ, i64_w, i32_w]
                              rfl
                            refine take_ (i := 27) (N := some 87) (v := ?_) (a' := ?_) #[true, true, true, true, true, true, true, true, true, true, true, true, true, true, true, true, true, true, true, true, true, true, true, true, true, true, true, true, false, false, false, false, false, false] rfl rfl (take_ofW HT_.out HW_.out (by kernel_rfl)) (fun _ _ _ h => h) (Or.inl ⟨by rfl, ?_⟩) hHeld ?_ ?_
                            rotate_left
                            · rintro w' ⟨s0, s1, s2, s3, s4, s5⟩
                              go_simp
                              with_reducible rfl
                            rotate_left
                            · simp only [Act.put, List.setIfInBounds_toArray, List.set_cons_zero, List.set_cons_succ, i64_w, i32_w]
                              rfl
                            refine pure_ (i := 28) (N := some 88) (v := ?_) (a' := ?_) #[true, true, true, true, true, true, true, true, true, true, true, true, true, true, true, true, true, true, true, true, true, true, true, true, true, true, true, true, true, false, false, false, false, false] rfl rfl (any_of HT_.out (by kernel_rfl)) (fun _ _ _ h => h) (Or.inl ⟨by rfl, ?_⟩) ?_ ?_
                            rotate_left
                            · intro w'
                              go_simp
                              with_reducible rfl
                            rotate_left
                            · simp only [Act.put, List.setIfInBounds_toArray, List.set_cons_zero, List.set_cons_succ, i64_w, i32_w]
                              rfl
                            refine take_ (i := 29) (N := some 89) (v := ?_) (a' := ?_) #[true, true, true, true, true, true, true, true, true, true, true, true, true, true, true, true, true, true, true, true, true, true, true, true, true, true, true, true, true, true, false, false, false, false] rfl rfl (take_ofW HT_.out HW_.out (by kernel_rfl)) (fun _ _ _ h => h) (Or.inl ⟨by rfl, ?_⟩) hHeld ?_ ?_
                            rotate_left
                            · rintro w' ⟨s0, s1, s2, s3, s4, s5⟩
                              go_simp
                              with_reducible rfl
                            rotate_left
                            · simp only [Act.put, List.setIfInBounds_toArray, List.set_cons_zero, List.set_cons_succ, i64_w, i32_w]
                              rfl
                            refine one_ (i := 30) (N := some 90) #[true, true, true, true, true, true, true, true, true, true, true, true, true, true, true, true, true, true, true, true, true, true, true, true, true, true, true, true, true, true, true, false, false, false] rfl rfl (one_of HT_.out (by kernel_rfl)) (by decide) (fun K hK => ?_)
                            refine goes_ Try.func44 (by kernel_rfl) rfl #[.agg #[.int .i64 ((rd_T39 l0_1 0).f0), .slice A461_1 ((rd_T39 l0_1 0).f1).length c461_1], .agg #[.int .i64 ((rd_T39 l0_1 1).f0), .slice A462_1 ((rd_T39 l0_1 1).f1).length c462_1]] (by rfl) rfl rfl (by (try simp only [List.map_toArray, List.map_cons, List.map_nil]); first | done | rfl | (simp only [List.length_drop, List.length_take]; rfl)) ?_
                            with_reducible refine (tree_Join.calls ((rd_T39 l0_1 0).f0) (fun k_ => k_ < w.heap.size) _ _ ((rd_T39 l0_1 0).f1) ((rd_T39 l0_1 1).f0) (fun k_ => k_ < w.heap.size) _ _ ((rd_T39 l0_1 1).f1) t463 t464 _ ?side1 ?side2 A51.out).mono ?_
                            (case side1 => exact Kd.V_mk HC461_1.out (Kd.F_below (Kd.C_F k39_heap HR461_1.out) (by repeat (first | (with_reducible first | exact HB.out | apply below_alloc | apply pw_below_drewN | apply below_drew1 | refine below_set ?_ GE443.out) | exact HB.out))))
                            (case side2 => exact Kd.V_mk HC462_1.out (Kd.F_below (Kd.C_F k39_heap HR462_1.out) (by repeat (first | (with_reducible first | exact HB.out | apply below_alloc | apply pw_below_drewN | apply below_drew1 | refine below_set ?_ GE443.out) | exact HB.out))))
                            rintro e w59 ⟨v465, rfl, ho0, hb⟩
                            refine ⟨_, rfl, ?_⟩
                            have n0_ := Aside0.mk (Kd.N_lower (Kd.N_mono (ok' := fun k_ => k_ ≠ gb443) ho0 (fun k_ hk_ => Or.elim hk_ (fun hs_ => Or.elim hs_ (fun hs_ => fun e_ => Nat.not_le.2 hs_ (by rw [e_]; exact GW443.out)) (fun hs_ => fun e_ => Nat.not_le.2 hs_ (by rw [e_]; exact GW443.out))) (fun hn_ => (Kd.freshB (g := gb443) (o := .cells #[.int .i64 a0_0, .slice (some ad456) l0_1.length c0_1] 39 (0, 0)) (by (with_reducible repeat (first | refine blk_drewN ?_ _ | refine blk_drew ?_ | refine blk_alloc ?_ _)); exact BK443.out) k_ hn_)))) (below_size (by repeat (first | (with_reducible first | exact HB.out | apply below_alloc | apply pw_below_drewN | apply below_drew1 | refine below_set ?_ GE443.out) | exact HB.out))))
                            have n1_ := Aside0.mk (blk_below (g := gb443) (o := .cells #[.int .i64 a0_0, .slice (some ad456) l0_1.length c0_1] 39 (0, 0)) (by (with_reducible repeat (first | refine blk_drewN ?_ _ | refine blk_drew ?_ | refine blk_alloc ?_ _)); exact BK443.out) hb)
                            have n2_ := Aside0.mk (below_step (by repeat (first | (with_reducible first | exact HB.out | apply below_alloc | apply pw_below_drewN | apply below_drew1 | refine below_set ?_ GE443.out) | exact HB.out)) hb)
                            clear BK443
                            clear HB
                            have HO466 := n0_
                            have BK443 := n1_
                            have HB := n2_
                            clear n0_ n1_ n2_
                            (try clear hb)
                            (try clear hb2)
                            (try clear hk)
                            (try clear hi)
                            (try clear ho0)
                            obtain ⟨Ao60, co60, eo60⟩ := Kd.N_slice HO466.out
                            (first | subst eo60 | (injection eo60 with f1_ f2_ f3_; have f4_ := f1_.symm; have f5_ := f3_.symm; clear f1_ f2_ f3_; subst f4_; subst f5_))
                            refine hK.out _ _ ⟨(blk_cell BK443.out 0).trans rfl, (blk_cell BK443.out 1).trans rfl, ((HB.out.cell (World.block_lt_of_cell? w _ hw461_0)).trans hw461_0), ((HB.out.cell (World.block_lt_of_cell? w _ hw461_1)).trans hw461_1), ((HB.out.cell (World.block_lt_of_cell? w _ hw462_0)).trans hw462_0), ((HB.out.cell (World.block_lt_of_cell? w _ hw462_1)).trans hw462_1)⟩ (fun hHeld => ?_)
                            clear hK K
                            refine norm_ (a' := ?_) ?_ ?_
                            rotate_left
                            · show Act.put _ (some 90) _ = _
                              simp only [Act.put, List.setIfInBounds_toArray, List.set_cons_zero, List.set_cons_succ, i64_w, i32_w]
                              rfl
                            refine one_ (i := 31) (N := some 91) #[true, true, true, true, true, true, true, true, true, true, true, true, true, true, true, true, true, true, true, true, true, true, true, true, true, true, true, true, true, true, true, true, false, false] rfl rfl (one_of HT_.out (by kernel_rfl)) (by decide) (fun K hK => ?_)
                            refine goes_ Try.func39 (by kernel_rfl) rfl #[.agg #[.int .i64 a0_0, .slice (some ad456) l0_1.length c0_1], .agg #[.int .i64 t463, .slice Ao60 t464.length co60]] (by rfl) rfl rfl (by (try simp only [List.map_toArray, List.map_cons, List.map_nil]); first | done | rfl | (simp only [List.length_drop, List.length_take]; rfl)) ?_
                            with_reducible refine (tree_Same.calls kj17 a0_0 _ _ l0_1 t463 _ _ t464 t467 _ ?side1 ?side2 ?side3 ?side4 A52.out).mono ?_
                            (case side1 => repeat (first | exact (Kd.C_below HR0_1.out HB.out) | (with_reducible refine Kd.C_alloc ?_ _) | (with_reducible refine Kd.C_drewN ?_ _) | (with_reducible refine Kd.C_drew ?_)))
                            (case side2 => exact HC0_1.out)
                            (case side3 => repeat (first | exact (Kd.N_reads' HO466.out).2.2 | (with_reducible refine Kd.C_alloc ?_ _) | (with_reducible refine Kd.C_drewN ?_ _) | (with_reducible refine Kd.C_drew ?_)))
                            (case side4 => exact (Kd.N_reads' HO466.out).2.1)
                            rintro e w61 ⟨rfl, hb⟩
                            refine ⟨_, rfl, ?_⟩
                            have n0_ := Aside0.mk (Kd.N_below (by (with_reducible repeat (first | apply Kd.N_alloc | apply Kd.N_drewN | apply Kd.N_drew)); exact HO466.out) hb)
                            have n1_ := Aside0.mk (blk_below (g := gb443) (o := .cells #[.int .i64 a0_0, .slice (some ad456) l0_1.length c0_1] 39 (0, 0)) (by (with_reducible repeat (first | refine blk_drewN ?_ _ | refine blk_drew ?_ | refine blk_alloc ?_ _)); exact BK443.out) hb)
                            have n2_ := Aside0.mk (below_step (by repeat (first | (with_reducible first | exact HB.out | apply below_alloc | apply pw_below_drewN | apply below_drew1 | refine below_set ?_ GE443.out) | exact HB.out)) hb)
                            clear HO466
                            clear BK443
                            clear HB
                            have HO466 := n0_
                            have BK443 := n1_
                            have HB := n2_
                            clear n0_ n1_ n2_
                            (try clear hb)
                            (try clear hb2)
                            (try clear hk)
                            (try clear hi)
                            refine hK.out _ _ ⟨(blk_cell BK443.out 0).trans rfl, (blk_cell BK443.out 1).trans rfl, ((HB.out.cell (World.block_lt_of_cell? w _ hw461_0)).trans hw461_0), ((HB.out.cell (World.block_lt_of_cell? w _ hw461_1)).trans hw461_1), ((HB.out.cell (World.block_lt_of_cell? w _ hw462_0)).trans hw462_0), ((HB.out.cell (World.block_lt_of_cell? w _ hw462_1)).trans hw462_1)⟩ (fun hHeld => ?_)
                            clear hK K
                            refine norm_ (a' := ?_) ?_ ?_
                            rotate_left
                            · show Act.put _ (some 91) _ = _
                              simp only [Act.put, List.setIfInBounds_toArray, List.set_cons_zero, List.set_cons_succ, i64_w, i32_w]
                              rfl
                            refine pure_ (i := 32) (N := some 92) (v := ?_) (a' := ?_) #[true, true, true, true, true, true, true, true, true, true, true, true, true, true, true, true, true, true, true, true, true, true, true, true, true, true, true, true, true, true, true, true, true, false] rfl rfl (any_of HT_.out (by kernel_rfl)) (fun _ _ _ h => h) (Or.inl ⟨by rfl, ?_⟩) ?_ ?_
                            rotate_left
                            · intro w'
                              go_simp
                              with_reducible rfl
                            rotate_left
                            · simp only [Act.put, List.setIfInBounds_toArray, List.set_cons_zero, List.set_cons_succ, i64_w, i32_w]
                              rfl
                            refine pure_ (i := 33) (N := some 2) (v := ?_) (a' := ?_) #[true, true, true, true, true, true, true, true, true, true, true, true, true, true, true, true, true, true, true, true, true, true, true, true, true, true, true, true, true, true, true, true, true, true] rfl rfl (any_of HT_.out (by kernel_rfl)) (fun _ _ _ h => h) (Or.inl ⟨by rfl, ?_⟩) ?_ ?_
                            rotate_left
                            · intro w'
                              go_simp
                              with_reducible rfl
                            rotate_left
                            · simp only [Act.put, List.setIfInBounds_toArray, List.set_cons_zero, List.set_cons_succ, i64_w, i32_w]
                              rfl
                            refine done_ (done_of HT_.out (by kernel_rfl)) ?_
                            try go_wp2
                            go_ret
                            exact ⟨by first | rfl | (simp [errW_none, errW_some] <;> rfl) | (simp [*, errW_none, errW_some] <;> rfl) | (clear HB; simp only [aside0_iff] at *; simp_all; done), by repeat (first | (with_reducible first | exact HB.out | apply below_alloc | apply pw_below_drewN | apply below_drew1 | refine below_set ?_ GE443.out) | exact HB.out)⟩
                          · rw [if_neg c50] at H
                            have c50b0 : ((Go.bits .or .i64 t457 t459) == t460) = false := beq_eq_false_iff_ne.mpr c50
                            have c50b1 : ((Go.bits .or .i64 t457 t459) != t460) = true := bne_iff_ne.mpr c50
                            exact absurd H (by simp)
                        · rw [if_neg c48] at H
                          have c48b0 : ((Go.bits .and .i64 t457 t459) == 0) = false := beq_eq_false_iff_ne.mpr c48
                          have c48b1 : ((Go.bits .and .i64 t457 t459) != 0) = true := bne_iff_ne.mpr c48
                          exact absurd H (by simp)
                      · rw [if_neg c47] at H
                        have c47b0 : decide (0 < t459) = false := decide_eq_false c47
                        clear c47
                        exact absurd H (by simp)
                    · rw [if_neg c46] at H
                      have c46b0 : decide (0 < t457) = false := decide_eq_false c46
                      clear c46
                      exact absurd H (by simp)
                  · rw [if_neg c44] at H
                    exact absurd H (by simp)
                · rw [if_neg c42] at H
                  exact absurd H (by simp)

end Go.Proofs.Ytdegbnjnbpjdfaa.T
