/- Go functions of this claim as Lean functions, and that each call comes to what its Lean function says; written for this claim by a program of this session (mkprint.py, over the kit's printer). Conditions: those in each theorem. -/
import Derived.Test.YtdegbnjnbpjdfaaT0
namespace Go.Proofs.Ytdegbnjnbpjdfaa.T
open Go.RowKit Go.Proofs.YtdegbnjnbpjdfaaW.PrintWords Go.Proofs.YtdegbnjnbpjdfaaW.PrintLast Go.Proofs.YtdegbnjnbpjdfaaW.PrintMore
attribute [local go_sem] max2_int min2_int max_two min_two max_three min_three max_four min_four   -- for this text's walks alone
set_option linter.unusedVariables false
set_option linter.unusedSimpArgs false

/-! ### tree_set: function 86 -/
mutual
def tree_set.j0 : Nat → Int → Bool → Int → List (S39) → Option (Int × Bool)
  | 0, _, _, _, _ => none
  | k + 1, x1, x11, x102000, x102001 => if x11 = true then (some (0, false)) else (if (x102001.length : Int) = 0 then (if x102000 ≥ 0 then (some (shl .i64 1 (mx (Int.tmod x102000 4) 0), decide (x102000 < 4))) else (some (shl .i64 1 (mx (Int.tmod x102000 4) 0), false))) else (if 0 < (x102001.length : Int) then ((tree_set.f k ((rd_T39 x102001 0).f0) ((rd_T39 x102001 0).f1) (wrap64 (x1 - 1))).bind fun bt103 => (if 1 < (x102001.length : Int) then ((tree_set.f k ((rd_T39 x102001 1).f0) ((rd_T39 x102001 1).f1) (wrap64 (x1 - 1))).bind fun bt106 => (if bt103.2 = true then (if bt106.2 = true then (some (Go.bits .or .i64 bt103.1 bt106.1, ((Go.bits .and .i64 bt103.1 bt106.1) == 0))) else (some (Go.bits .or .i64 bt103.1 bt106.1, false))) else (some (Go.bits .or .i64 bt103.1 bt106.1, false)))) else (none))) else (none)))
def tree_set.f : Nat → Int → List (S39) → Int → Option (Int × Bool)
  | 0, _, _, _ => none
  | k + 1, a0_0, l0_1, a1 => if a1 = 0 then (tree_set.j0 k a1 (a1 == 0) a0_0 l0_1) else (if (l0_1.length : Int) = 0 then (if (l0_1.length : Int) = 2 then (tree_set.j0 k a1 (a0_0 != 0) a0_0 l0_1) else (tree_set.j0 k a1 false a0_0 l0_1)) else (if (l0_1.length : Int) = 2 then (tree_set.j0 k a1 (a0_0 != 0) a0_0 l0_1) else (tree_set.j0 k a1 ((l0_1.length : Int) != 2) a0_0 l0_1)))
end
theorem tree_set.mono_l : ∀ k, (∀ y0 y1 y2, LeO (tree_set.f k y0 y1 y2) (tree_set.f (k + 1) y0 y1 y2)) ∧ (∀ y0 y1 y2 y3, LeO (tree_set.j0 k y0 y1 y2 y3) (tree_set.j0 (k + 1) y0 y1 y2 y3))
  | 0 => ⟨fun _ _ _ r h => by simp [tree_set.f] at h, fun _ _ _ _ r h => by simp [tree_set.j0] at h⟩
  | k + 1 => by
    obtain ⟨ih0, ih1⟩ := tree_set.mono_l k
    refine ⟨?_, ?_⟩
    · intro y0 y1 y2
      unfold tree_set.f
      repeat' first
      | (with_reducible exact ih0 _ _ _)
      | (with_reducible exact ih1 _ _ _ _)
      | (with_reducible exact LeO.refl _)
      | (with_reducible exact LeO.none _)
      | (with_reducible refine LeO.ite ?_ ?_)
      | (with_reducible refine LeO.bind ?_ (fun _ => ?_))
      | exact ih0 _ _ _
      | exact ih1 _ _ _ _
      | exact LeO.none _
      | refine LeO.ite ?_ ?_
      | refine LeO.bind ?_ (fun _ => ?_)
    · intro y0 y1 y2 y3
      unfold tree_set.j0
      repeat' first
      | (with_reducible exact ih0 _ _ _)
      | (with_reducible exact ih1 _ _ _ _)
      | (with_reducible exact LeO.refl _)
      | (with_reducible exact LeO.none _)
      | (with_reducible refine LeO.ite ?_ ?_)
      | (with_reducible refine LeO.bind ?_ (fun _ => ?_))
      | exact ih0 _ _ _
      | exact ih1 _ _ _ _
      | exact LeO.none _
      | refine LeO.ite ?_ ?_
      | refine LeO.bind ?_ (fun _ => ?_)
theorem tree_set.mono : ∀ a0 a1 a2 k, LeO (tree_set.f k a0 a1 a2) (tree_set.f (k + 1) a0 a1 a2) := by
  intro a0 a1 a2 k
  obtain ⟨ih0, ih1⟩ := tree_set.mono_l k
  exact ih0 a0 a1 a2
set_option maxHeartbeats 8000000 in
set_option maxRecDepth 100000 in
theorem tree_set.calls (k : Nat) : ∀ (a0_0 : Int) (A0_1 : Option Addr) (c0_1 : Nat) (l0_1 : List (S39)) (a1 : Int) (r1 : Int) (r2 : Bool) (w : World) (hr0_1 : Kd.C k39 w A0_1 l0_1.length l0_1) (hc0_1 : l0_1.length ≤ c0_1) (h : tree_set.f k a0_0 l0_1 a1 = some (r1, r2)),
    Calls Try.prog 86 #[.agg #[.int .i64 a0_0, .slice A0_1 l0_1.length c0_1], .int .i64 a1] w fun e w' => e = .returned (.tuple #[.int .i64 r1, .bool r2]) ∧ Below w.heap.size w w' := by
  induction k using Nat.strongRecOn with
  | _ k ih =>
  intro a0_0 A0_1 c0_1 l0_1 a1 r1 r2 w hr0_1 hc0_1 h
  cases k with
  | zero => exact absurd h (by simp [tree_set.f])
  | succ k =>
  simp only [tree_set.f] at h
  have hu39 := Try.underlying39
  have HR0_1 := Aside0.mk hr0_1
  have HC0_1 := Aside0.mk hc0_1
  clear hr0_1 hc0_1
  have HB := Aside0.mk (Below.refl w.heap.size w)
  have H : (if a1 = 0 then (tree_set.j0 k a1 (a1 == 0) a0_0 l0_1) else (if (l0_1.length : Int) = 0 then (if (l0_1.length : Int) = 2 then (tree_set.j0 k a1 (a0_0 != 0) a0_0 l0_1) else (tree_set.j0 k a1 false a0_0 l0_1)) else (if (l0_1.length : Int) = 2 then (tree_set.j0 k a1 (a0_0 != 0) a0_0 l0_1) else (tree_set.j0 k a1 ((l0_1.length : Int) != 2) a0_0 l0_1)))) = some (r1, r2) := h
  clear h
  have HC3 := Aside0.mk H
  clear H
  go_enter Try.func86, Try.ntmps86
  go_upto_if 11 with (first | ((with_reducible refine gate_dst (N := 2) rfl ?_); (try (refine gate_guard (by rfl) ?_; dsimp only)); refine box_event ?hg (N := 2) ?hd (cs := #[.int .i64 a0_0, .slice A0_1 l0_1.length c0_1]) (t := 39) ?hr ?_; (case hd => rfl); (case hg => rfl); (case hr => first | (go_simp; done) | (go_simp; rfl)); intro gb101 hg w4 hbox hb; have n0_ := Aside0.mk (below_step (by repeat (first | (with_reducible first | exact HB.out | apply below_alloc | apply pw_below_drewN | apply below_drew1) | exact HB.out)) hb); have n1_ := Aside0.mk (hbox); have n2_ := Aside0.mk ((by rw [hg]; exact (below_size (by repeat (first | (with_reducible first | exact HB.out | apply below_alloc | apply pw_below_drewN | apply below_drew1) | exact HB.out))) : w.heap.size ≤ gb101)); have n3_ := Aside0.mk ((by rw [hg]; exact (below_size (by repeat (first | (with_reducible first | exact HB.out | apply below_alloc | apply pw_below_drewN | apply below_drew1) | exact HB.out))) : w.heap.size ≤ gb101)); clear HB; have HB := n0_; have BK101 := n1_; have GW101 := n2_; have GE101 := n3_; clear n0_ n1_ n2_ n3_; clear hb hbox hg))
  (try simp only [Act.put, List.setIfInBounds_toArray, List.set_cons_zero, List.set_cons_succ])
  go_cut [11] (fun v11 wc => ∃ (kq : Nat) (x11_2 : Bool), v11 = .bool x11_2 ∧ Aside0 (tree_set.j0 kq a1 x11_2 a0_0 l0_1 = some (r1, r2)) ∧ Aside0 (kq ≤ k) ∧ Aside0 (wc.heap[gb101]? = some (.cells #[.int .i64 a0_0, (.slice A0_1 l0_1.length c0_1)] 39 (0, 0))) ∧ Aside0 (Below w.heap.size w wc))
  case first =>
    have H := HC3.out
    clear HC3
    by_cases c5 : a1 = 0
    · rw [if_pos c5] at H
      have c5b0 : (a1 == 0) = true := beq_iff_eq.mpr c5
      have c5b1 : (a1 != 0) = false := bne_eq_false_iff_eq.mpr c5
      clear c5
      (first | rw [c5b0] | (simp only [i64_w, i32_w]; rw [c5b0]) | skip)
      have H' := Aside0.mk H
      clear H
      go_wp2
      go_meet
      case rel => exact ⟨_, ((a1 == 0)), (by first | rfl | (simp; done) | (simp [*]; done)), H', ⟨by first | omega | exact Nat.le_refl _⟩, ⟨by (with_reducible repeat (first | refine blk_drewN ?_ _ | refine blk_drew ?_ | refine blk_alloc ?_ _)); exact BK101.out⟩, ⟨by repeat (first | (with_reducible first | exact HB.out | apply below_alloc | apply pw_below_drewN | apply below_drew1 | refine below_set ?_ GE101.out) | exact HB.out)⟩⟩
    · rw [if_neg c5] at H
      have c5b0 : (a1 == 0) = false := beq_eq_false_iff_ne.mpr c5
      have c5b1 : (a1 != 0) = true := bne_iff_ne.mpr c5
      (first | rw [c5b0] | (simp only [i64_w, i32_w]; rw [c5b0]) | skip)
      by_cases c6 : (l0_1.length : Int) = 0
      · rw [if_pos c6] at H
        have c6b0 : ((l0_1.length : Int) == 0) = true := beq_iff_eq.mpr c6
        have c6b1 : ((l0_1.length : Int) != 0) = false := bne_eq_false_iff_eq.mpr c6
        clear c6
        by_cases c7 : (l0_1.length : Int) = 2
        · rw [if_pos c7] at H
          have c7b0 : ((l0_1.length : Int) == 2) = true := beq_iff_eq.mpr c7
          have c7b1 : ((l0_1.length : Int) != 2) = false := bne_eq_false_iff_eq.mpr c7
          clear c7
          have H' := Aside0.mk H
          clear H
          have hcz8_0 : w4.cell? ⟨gb101, 0, none⟩ = some (.int .i64 a0_0) := (blk_cell BK101.out 0).trans rfl
          have hcz8_1 : w4.cell? ⟨gb101, 1, none⟩ = some (.slice A0_1 l0_1.length c0_1) := (blk_cell BK101.out 1).trans rfl
          have hfz8_0 := blk_frozen BK101.out 0
          have hfz8_1 := blk_frozen BK101.out 1
          go_wp2
          go_meet
          case rel => exact ⟨_, ((a0_0 != 0)), (by first | rfl | (simp; done) | (simp [*]; done)), H', ⟨by first | omega | exact Nat.le_refl _⟩, ⟨by (with_reducible repeat (first | refine blk_drewN ?_ _ | refine blk_drew ?_ | refine blk_alloc ?_ _)); exact BK101.out⟩, ⟨by repeat (first | (with_reducible first | exact HB.out | apply below_alloc | apply pw_below_drewN | apply below_drew1 | refine below_set ?_ GE101.out) | exact HB.out)⟩⟩
        · rw [if_neg c7] at H
          have c7b0 : ((l0_1.length : Int) == 2) = false := beq_eq_false_iff_ne.mpr c7
          have c7b1 : ((l0_1.length : Int) != 2) = true := bne_iff_ne.mpr c7
          have H' := Aside0.mk H
          clear H
          have hcz9_0 : w4.cell? ⟨gb101, 0, none⟩ = some (.int .i64 a0_0) := (blk_cell BK101.out 0).trans rfl
          have hcz9_1 : w4.cell? ⟨gb101, 1, none⟩ = some (.slice A0_1 l0_1.length c0_1) := (blk_cell BK101.out 1).trans rfl
          have hfz9_0 := blk_frozen BK101.out 0
          have hfz9_1 := blk_frozen BK101.out 1
          go_wp2
          go_meet
          case rel => exact ⟨_, (false), (by first | rfl | (simp; done) | (simp [*]; done)), H', ⟨by first | omega | exact Nat.le_refl _⟩, ⟨by (with_reducible repeat (first | refine blk_drewN ?_ _ | refine blk_drew ?_ | refine blk_alloc ?_ _)); exact BK101.out⟩, ⟨by repeat (first | (with_reducible first | exact HB.out | apply below_alloc | apply pw_below_drewN | apply below_drew1 | refine below_set ?_ GE101.out) | exact HB.out)⟩⟩
      · rw [if_neg c6] at H
        have c6b0 : ((l0_1.length : Int) == 0) = false := beq_eq_false_iff_ne.mpr c6
        have c6b1 : ((l0_1.length : Int) != 0) = true := bne_iff_ne.mpr c6
        have c6b2 : ¬ (l0_1 = []) := fun h_ => c6 (by rw [h_]; rfl)
        by_cases c10 : (l0_1.length : Int) = 2
        · rw [if_pos c10] at H
          have c10b0 : ((l0_1.length : Int) == 2) = true := beq_iff_eq.mpr c10
          have c10b1 : ((l0_1.length : Int) != 2) = false := bne_eq_false_iff_eq.mpr c10
          clear c10
          have H' := Aside0.mk H
          clear H
          have hcz11_0 : w4.cell? ⟨gb101, 0, none⟩ = some (.int .i64 a0_0) := (blk_cell BK101.out 0).trans rfl
          have hcz11_1 : w4.cell? ⟨gb101, 1, none⟩ = some (.slice A0_1 l0_1.length c0_1) := (blk_cell BK101.out 1).trans rfl
          have hfz11_0 := blk_frozen BK101.out 0
          have hfz11_1 := blk_frozen BK101.out 1
          go_wp2
          go_meet
          case rel => exact ⟨_, ((a0_0 != 0)), (by first | rfl | (simp; done) | (simp [*]; done)), H', ⟨by first | omega | exact Nat.le_refl _⟩, ⟨by (with_reducible repeat (first | refine blk_drewN ?_ _ | refine blk_drew ?_ | refine blk_alloc ?_ _)); exact BK101.out⟩, ⟨by repeat (first | (with_reducible first | exact HB.out | apply below_alloc | apply pw_below_drewN | apply below_drew1 | refine below_set ?_ GE101.out) | exact HB.out)⟩⟩
        · rw [if_neg c10] at H
          have c10b0 : ((l0_1.length : Int) == 2) = false := beq_eq_false_iff_ne.mpr c10
          have c10b1 : ((l0_1.length : Int) != 2) = true := bne_iff_ne.mpr c10
          have H' := Aside0.mk H
          clear H
          have hcz12_0 : w4.cell? ⟨gb101, 0, none⟩ = some (.int .i64 a0_0) := (blk_cell BK101.out 0).trans rfl
          have hcz12_1 : w4.cell? ⟨gb101, 1, none⟩ = some (.slice A0_1 l0_1.length c0_1) := (blk_cell BK101.out 1).trans rfl
          have hfz12_0 := blk_frozen BK101.out 0
          have hfz12_1 := blk_frozen BK101.out 1
          go_wp2
          go_meet
          case rel => exact ⟨_, (((l0_1.length : Int) != 2)), (by first | rfl | (simp; done) | (simp [*]; done)), H', ⟨by first | omega | exact Nat.le_refl _⟩, ⟨by (with_reducible repeat (first | refine blk_drewN ?_ _ | refine blk_drew ?_ | refine blk_alloc ?_ _)); exact BK101.out⟩, ⟨by repeat (first | (with_reducible first | exact HB.out | apply below_alloc | apply pw_below_drewN | apply below_drew1 | refine below_set ?_ GE101.out) | exact HB.out)⟩⟩
  case rest =>
    clear HC3
    try clear c1
    try clear p2
    try clear c5
    try clear c5b0
    try clear c5b1
    try clear c6
    try clear c6b0
    try clear c6b1
    try clear c6b2
    try clear c7
    try clear c7b0
    try clear c7b1
    try clear c8
    try clear c10
    try clear c10b0
    try clear c10b1
    try clear hcz11_0
    try clear hcz11_1
    try clear hcz12_0
    try clear hcz12_1
    try clear hcz8_0
    try clear hcz8_1
    try clear hcz9_0
    try clear hcz9_1
    try clear hfz11_0
    try clear hfz11_1
    try clear hfz12_0
    try clear hfz12_1
    try clear hfz8_0
    try clear hfz8_1
    try clear hfz9_0
    try clear hfz9_1
    obtain ⟨kq, x11_2, rfl, HA, HJ2, BK101, HB⟩ := hcut
    cases kq with
    | zero => exact absurd HA.out (by simp [tree_set.j0])
    | succ kj2 =>
      have H := HA.out
      clear HA
      simp only [tree_set.j0] at H
      by_cases c13 : x11_2 = true
      · subst c13
        have H1 : (some (0, false)) = some (r1, r2) := by rw [if_pos rfl] at H; exact H
        clear H
        have H := H1
        clear H1
        simp only [Option.some.injEq, Prod.mk.injEq] at H
        obtain ⟨rfl, rfl⟩ := H
        go_wp2
        go_ret2
        exact ⟨by first | rfl | (simp [errW_none, errW_some] <;> rfl) | (simp [*, errW_none, errW_some] <;> rfl) | (clear HB; simp only [aside0_iff] at *; simp_all; done), by repeat (first | (with_reducible first | exact HB.out | apply below_alloc | apply pw_below_drewN | apply below_drew1 | refine below_set ?_ GE101.out) | exact HB.out)⟩
      · replace c13 := Bool.eq_false_iff.mpr c13
        subst c13
        have H1 : (if (l0_1.length : Int) = 0 then (if a0_0 ≥ 0 then (some (shl .i64 1 (mx (Int.tmod a0_0 4) 0), decide (a0_0 < 4))) else (some (shl .i64 1 (mx (Int.tmod a0_0 4) 0), false))) else (if 0 < (l0_1.length : Int) then ((tree_set.f kj2 ((rd_T39 l0_1 0).f0) ((rd_T39 l0_1 0).f1) (wrap64 (a1 - 1))).bind fun bt103 => (if 1 < (l0_1.length : Int) then ((tree_set.f kj2 ((rd_T39 l0_1 1).f0) ((rd_T39 l0_1 1).f1) (wrap64 (a1 - 1))).bind fun bt106 => (if bt103.2 = true then (if bt106.2 = true then (some (Go.bits .or .i64 bt103.1 bt106.1, ((Go.bits .and .i64 bt103.1 bt106.1) == 0))) else (some (Go.bits .or .i64 bt103.1 bt106.1, false))) else (some (Go.bits .or .i64 bt103.1 bt106.1, false)))) else (none))) else (none))) = some (r1, r2) := by rw [if_neg (show ¬ (false = true) by decide)] at H; exact H
        clear H
        have H := H1
        clear H1
        by_cases c14 : (l0_1.length : Int) = 0
        · rw [if_pos c14] at H
          have c14b0 : ((l0_1.length : Int) == 0) = true := beq_iff_eq.mpr c14
          have c14b1 : ((l0_1.length : Int) != 0) = false := bne_eq_false_iff_eq.mpr c14
          clear c14
          by_cases c15 : a0_0 ≥ 0
          · rw [if_pos c15] at H
            have c15b0 : decide (0 ≤ a0_0) = true := decide_eq_true c15
            clear c15
            obtain ⟨ji16, hji16⟩ : ∃ j_ : Int, (mx (Int.tmod a0_0 4) 0) = j_ := ⟨_, rfl⟩
            have hji16n : 0 ≤ ji16 := by rw [← hji16]; unfold mx; split <;> omega
            replace H : (some (shl .i64 1 (ji16), decide (a0_0 < 4))) = some (r1, r2) := by first | (rw [hji16] at H; exact H) | (simp only [hji16] at H ⊢; exact H)
            have hji16_ : (if (Int.tmod a0_0 4) < 0 then 0 else (Int.tmod a0_0 4)) = ji16 := hji16
            obtain ⟨ji17, hji17⟩ : ∃ j_ : Int, (shl .i64 1 (ji16)) = j_ := ⟨_, rfl⟩
            replace H : (some (ji17, decide (a0_0 < 4))) = some (r1, r2) := by first | (rw [hji17] at H; exact H) | (simp only [hji17] at H ⊢; exact H)
            have hji17_ : (IntKind.i64.wrap (1 * 2 ^ min (ji16).toNat 64)) = ji17 := hji17
            have hji17z : (ji16) ≤ 64 → (IntKind.i64.wrap (1 * 2 ^ (ji16).toNat)) = ji17 := shl_small hji17
            have hji17u : (IntKind.i64.wrap (2 ^ min (ji16).toNat 64)) = ji17 := by have h_ := hji17_; rw [Int.one_mul] at h_; exact h_
            have hji17v : (ji16) ≤ 64 → (IntKind.i64.wrap (2 ^ (ji16).toNat)) = ji17 := fun hle_ => by have h_ := hji17z hle_; rw [Int.one_mul] at h_; exact h_
            have hji17y : (wrap64 (1 * 2 ^ min (ji16).toNat 64)) = ji17 := (i64_w _).symm.trans hji17_
            have hji17x : (ji16) ≤ 64 → (wrap64 (1 * 2 ^ (ji16).toNat)) = ji17 := fun h_ => (i64_w _).symm.trans (hji17z h_)
            simp only [Option.some.injEq, Prod.mk.injEq] at H
            obtain ⟨rfl, rfl⟩ := H
            have hcz18_0 : wc.cell? ⟨gb101, 0, none⟩ = some (.int .i64 a0_0) := (blk_cell BK101.out 0).trans rfl
            have hcz18_1 : wc.cell? ⟨gb101, 1, none⟩ = some (.slice A0_1 l0_1.length c0_1) := (blk_cell BK101.out 1).trans rfl
            have hfz18_0 := blk_frozen BK101.out 0
            have hfz18_1 := blk_frozen BK101.out 1
            go_wp2
            go_ret2
            exact ⟨by first | rfl | (simp [errW_none, errW_some] <;> rfl) | (simp only [← hji16, ← hji17]; first | rfl | (simp [errW_none, errW_some] <;> rfl)) | (simp [*, errW_none, errW_some] <;> rfl) | (clear HB; simp only [aside0_iff] at *; simp_all; done), by repeat (first | (with_reducible first | exact HB.out | apply below_alloc | apply pw_below_drewN | apply below_drew1 | refine below_set ?_ GE101.out) | exact HB.out)⟩
          · rw [if_neg c15] at H
            have c15b0 : decide (0 ≤ a0_0) = false := decide_eq_false c15
            clear c15
            obtain ⟨ji19, hji19⟩ : ∃ j_ : Int, (mx (Int.tmod a0_0 4) 0) = j_ := ⟨_, rfl⟩
            have hji19n : 0 ≤ ji19 := by rw [← hji19]; unfold mx; split <;> omega
            replace H : (some (shl .i64 1 (ji19), false)) = some (r1, r2) := by first | (rw [hji19] at H; exact H) | (simp only [hji19] at H ⊢; exact H)
            have hji19_ : (if (Int.tmod a0_0 4) < 0 then 0 else (Int.tmod a0_0 4)) = ji19 := hji19
            obtain ⟨ji20, hji20⟩ : ∃ j_ : Int, (shl .i64 1 (ji19)) = j_ := ⟨_, rfl⟩
            replace H : (some (ji20, false)) = some (r1, r2) := by first | (rw [hji20] at H; exact H) | (simp only [hji20] at H ⊢; exact H)
            have hji20_ : (IntKind.i64.wrap (1 * 2 ^ min (ji19).toNat 64)) = ji20 := hji20
            have hji20z : (ji19) ≤ 64 → (IntKind.i64.wrap (1 * 2 ^ (ji19).toNat)) = ji20 := shl_small hji20
            have hji20u : (IntKind.i64.wrap (2 ^ min (ji19).toNat 64)) = ji20 := by have h_ := hji20_; rw [Int.one_mul] at h_; exact h_
            have hji20v : (ji19) ≤ 64 → (IntKind.i64.wrap (2 ^ (ji19).toNat)) = ji20 := fun hle_ => by have h_ := hji20z hle_; rw [Int.one_mul] at h_; exact h_
            have hji20y : (wrap64 (1 * 2 ^ min (ji19).toNat 64)) = ji20 := (i64_w _).symm.trans hji20_
            have hji20x : (ji19) ≤ 64 → (wrap64 (1 * 2 ^ (ji19).toNat)) = ji20 := fun h_ => (i64_w _).symm.trans (hji20z h_)
            simp only [Option.some.injEq, Prod.mk.injEq] at H
            obtain ⟨rfl, rfl⟩ := H
            have hcz21_0 : wc.cell? ⟨gb101, 0, none⟩ = some (.int .i64 a0_0) := (blk_cell BK101.out 0).trans rfl
            have hcz21_1 : wc.cell? ⟨gb101, 1, none⟩ = some (.slice A0_1 l0_1.length c0_1) := (blk_cell BK101.out 1).trans rfl
            have hfz21_0 := blk_frozen BK101.out 0
            have hfz21_1 := blk_frozen BK101.out 1
            go_wp2
            go_ret2
            exact ⟨by first | rfl | (simp [errW_none, errW_some] <;> rfl) | (simp only [← hji19, ← hji20]; first | rfl | (simp [errW_none, errW_some] <;> rfl)) | (simp [*, errW_none, errW_some] <;> rfl) | (clear HB; simp only [aside0_iff] at *; simp_all; done), by repeat (first | (with_reducible first | exact HB.out | apply below_alloc | apply pw_below_drewN | apply below_drew1 | refine below_set ?_ GE101.out) | exact HB.out)⟩
        · rw [if_neg c14] at H
          have c14b0 : ((l0_1.length : Int) == 0) = false := beq_eq_false_iff_ne.mpr c14
          have c14b1 : ((l0_1.length : Int) != 0) = true := bne_iff_ne.mpr c14
          have c14b2 : ¬ (l0_1 = []) := fun h_ => c14 (by rw [h_]; rfl)
          by_cases c22 : 0 < (l0_1.length : Int)
          · rw [if_pos c22] at H
            have c22b0 : decide (0 < (l0_1.length : Int)) = true := decide_eq_true c22
            have c22b1 : decide (0 < l0_1.length) = true := decide_eq_true (by omega)
            clear c22
            replace H := Option.bind_eq_some_iff.mp H
            obtain ⟨⟨t103, t104⟩, A230, H⟩ := H
            replace H : (if 1 < (l0_1.length : Int) then ((tree_set.f kj2 ((rd_T39 l0_1 1).f0) ((rd_T39 l0_1 1).f1) (wrap64 (a1 - 1))).bind fun bt106 => (if t104 = true then (if bt106.2 = true then (some (Go.bits .or .i64 t103 bt106.1, ((Go.bits .and .i64 t103 bt106.1) == 0))) else (some (Go.bits .or .i64 t103 bt106.1, false))) else (some (Go.bits .or .i64 t103 bt106.1, false)))) else (none)) = some (r1, r2) := H
            have A23 := Aside0.mk A230
            clear A230
            by_cases c24 : 1 < (l0_1.length : Int)
            · rw [if_pos c24] at H
              have c24b0 : decide (1 < (l0_1.length : Int)) = true := decide_eq_true c24
              have c24b1 : decide (1 < l0_1.length) = true := decide_eq_true (by omega)
              clear c24
              replace H := Option.bind_eq_some_iff.mp H
              obtain ⟨⟨t106, t107⟩, A250, H⟩ := H
              replace H : (if t104 = true then (if t107 = true then (some (Go.bits .or .i64 t103 t106, ((Go.bits .and .i64 t103 t106) == 0))) else (some (Go.bits .or .i64 t103 t106, false))) else (some (Go.bits .or .i64 t103 t106, false))) = some (r1, r2) := H
              have A25 := Aside0.mk A250
              clear A250
              by_cases c26 : t104 = true
              · subst c26
                have H1 : (if t107 = true then (some (Go.bits .or .i64 t103 t106, ((Go.bits .and .i64 t103 t106) == 0))) else (some (Go.bits .or .i64 t103 t106, false))) = some (r1, r2) := by rw [if_pos rfl] at H; exact H
                clear H
                have H := H1
                clear H1
                by_cases c27 : t107 = true
                · subst c27
                  have H1 : (some (Go.bits .or .i64 t103 t106, ((Go.bits .and .i64 t103 t106) == 0))) = some (r1, r2) := by rw [if_pos rfl] at H; exact H
                  clear H
                  have H := H1
                  clear H1
                  simp only [Option.some.injEq, Prod.mk.injEq] at H
                  obtain ⟨rfl, rfl⟩ := H
                  have hcz28_0 : wc.cell? ⟨gb101, 0, none⟩ = some (.int .i64 a0_0) := (blk_cell BK101.out 0).trans rfl
                  have hcz28_1 : wc.cell? ⟨gb101, 1, none⟩ = some (.slice A0_1 l0_1.length c0_1) := (blk_cell BK101.out 1).trans rfl
                  have hfz28_0 := blk_frozen BK101.out 0
                  have hfz28_1 := blk_frozen BK101.out 1
                  have p102 : 0 ≤ (0 : Int) := (by omega)
                  have q102 : 0 < (l0_1.length : Int) := of_decide_eq_true (by first | (with_reducible assumption) | assumption)
                  obtain ⟨ad102, A102_1, c102_1, e102, hx102_0, hx102_1, hl102_1, hi102_1⟩ := at_T39 HR0_1.out 0 p102 q102
                  cases e102
                  have qi102 : (0 < l0_1.length) = True := eq_true (by omega)
                  (try rw [show ((0 : Int)).toNat = 0 from rfl] at hx102_0)
                  (try rw [show 0 * 2 = 0 from rfl] at hx102_0)
                  (try rw [Addr.add_zero'] at hx102_0)
                  (try rw [show ((0 : Int)).toNat = 0 from rfl] at hx102_1)
                  (try rw [show 0 * 2 = 0 from rfl] at hx102_1)
                  (try rw [Addr.add_zero'] at hx102_1)
                  replace hx102_0 := (HB.out.cell (World.block_lt_of_cell? w _ hx102_0)).trans hx102_0
                  replace hx102_1 := (HB.out.cell (World.block_lt_of_cell? w _ hx102_1)).trans hx102_1
                  have HR102_1 := Aside0.mk hi102_1
                  have HC102_1 := Aside0.mk hl102_1
                  clear hi102_1 hl102_1
                  replace p102 := eq_true p102
                  replace q102 := eq_true q102
                  go_wp2_with (first | ((with_reducible refine gate_callee (f := 86) rfl ?_); refine goesL_ (some 59) rfl rfl Try.func86 (by kernel_rfl) rfl #[.agg #[.int .i64 ((rd_T39 l0_1 0).f0), .slice A102_1 ((rd_T39 l0_1 0).f1).length c102_1], .int .i64 (wrap64 (a1 - 1))] rfl (by (try simp only [List.map_toArray, List.map_cons, List.map_nil]); first | done | rfl | (simp only [List.length_drop, List.length_take]; rfl)) ?_; (with_reducible refine (ih kj2 (by have := HJ2.out; omega) ((rd_T39 l0_1 0).f0) _ _ ((rd_T39 l0_1 0).f1) (wrap64 (a1 - 1)) t103 true _ ?side1 ?side2 A23.out).mono ?_); (case side1 => repeat (first | exact (Kd.C_below HR102_1.out HB.out) | (with_reducible refine Kd.C_alloc ?_ _) | (with_reducible refine Kd.C_drewN ?_ _) | (with_reducible refine Kd.C_drew ?_))); (case side2 => exact HC102_1.out); rintro e w29 ⟨rfl, hb⟩; refine ⟨_, rfl, ?_⟩; have n0_ := Aside0.mk (blk_below (g := gb101) (o := .cells #[.int .i64 a0_0, .slice (some ad102) l0_1.length c0_1] 39 (0, 0)) (by (with_reducible repeat (first | refine blk_drewN ?_ _ | refine blk_drew ?_ | refine blk_alloc ?_ _)); exact BK101.out) hb); have n1_ := Aside0.mk (below_step (by repeat (first | (with_reducible first | exact HB.out | apply below_alloc | apply pw_below_drewN | apply below_drew1 | refine below_set ?_ GE101.out) | exact HB.out)) hb); clear BK101; clear HB; have BK101 := n0_; have HB := n1_; clear n0_ n1_; (try clear hb); (try clear hb2); (try clear hk); (try clear hi); have hcz30_0 : w29.cell? ⟨gb101, 0, none⟩ = some (.int .i64 a0_0) := (blk_cell BK101.out 0).trans rfl; have hcz30_1 : w29.cell? ⟨gb101, 1, none⟩ = some (.slice (some ad102) l0_1.length c0_1) := (blk_cell BK101.out 1).trans rfl; have hfz30_0 := blk_frozen BK101.out 0; have hfz30_1 := blk_frozen BK101.out 1; have p105 : 0 ≤ (1 : Int) := (by omega); have q105 : 1 < (l0_1.length : Int) := of_decide_eq_true (by first | (with_reducible assumption) | assumption); obtain ⟨ad105, A105_1, c105_1, e105, hx105_0, hx105_1, hl105_1, hi105_1⟩ := at_T39 HR0_1.out 1 p105 q105; obtain rfl : ad102 = ad105 := (by injection e105); (try simp only [show (1 : Int).toNat = 1 from rfl, Nat.reduceMul, Nat.reduceEqDiff, Go.Addr.add, ↓reduceIte] at hx105_0); (try simp only [show (1 : Int).toNat = 1 from rfl, Nat.reduceMul, Nat.reduceEqDiff, Go.Addr.add, ↓reduceIte] at hx105_1); have qi105 : (1 < l0_1.length) = True := eq_true (by omega); (try rw [show ((1 : Int)).toNat = 1 from rfl] at hx105_0); (try rw [show 1 * 2 = 2 from rfl] at hx105_0); (try rw [show ((1 : Int)).toNat = 1 from rfl] at hx105_1); (try rw [show 1 * 2 = 2 from rfl] at hx105_1); replace hx105_0 := (HB.out.cell (World.block_lt_of_cell? w _ hx105_0)).trans hx105_0; replace hx105_1 := (HB.out.cell (World.block_lt_of_cell? w _ hx105_1)).trans hx105_1; have HR105_1 := Aside0.mk hi105_1; have HC105_1 := Aside0.mk hl105_1; clear hi105_1 hl105_1; replace p105 := eq_true p105; replace q105 := eq_true q105) | ((with_reducible refine gate_callee (f := 86) rfl ?_); refine goesL_ (some 69) rfl rfl Try.func86 (by kernel_rfl) rfl #[.agg #[.int .i64 ((rd_T39 l0_1 1).f0), .slice A105_1 ((rd_T39 l0_1 1).f1).length c105_1], .int .i64 (wrap64 (a1 - 1))] rfl (by (try simp only [List.map_toArray, List.map_cons, List.map_nil]); first | done | rfl | (simp only [List.length_drop, List.length_take]; rfl)) ?_; (with_reducible refine (ih kj2 (by have := HJ2.out; omega) ((rd_T39 l0_1 1).f0) _ _ ((rd_T39 l0_1 1).f1) (wrap64 (a1 - 1)) t106 true _ ?side1 ?side2 A25.out).mono ?_); (case side1 => repeat (first | exact (Kd.C_below HR105_1.out HB.out) | (with_reducible refine Kd.C_alloc ?_ _) | (with_reducible refine Kd.C_drewN ?_ _) | (with_reducible refine Kd.C_drew ?_))); (case side2 => exact HC105_1.out); rintro e w31 ⟨rfl, hb⟩; refine ⟨_, rfl, ?_⟩; have n0_ := Aside0.mk (blk_below (g := gb101) (o := .cells #[.int .i64 a0_0, .slice (some ad102) l0_1.length c0_1] 39 (0, 0)) (by (with_reducible repeat (first | refine blk_drewN ?_ _ | refine blk_drew ?_ | refine blk_alloc ?_ _)); exact BK101.out) hb); have n1_ := Aside0.mk (below_step (by repeat (first | (with_reducible first | exact HB.out | apply below_alloc | apply pw_below_drewN | apply below_drew1 | refine below_set ?_ GE101.out) | exact HB.out)) hb); clear BK101; clear HB; have BK101 := n0_; have HB := n1_; clear n0_ n1_; (try clear hb); (try clear hb2); (try clear hk); (try clear hi)))
                  go_ret2
                  exact ⟨by first | rfl | (simp [errW_none, errW_some] <;> rfl) | (simp [*, errW_none, errW_some] <;> rfl) | (clear HB; simp only [aside0_iff] at *; simp_all; done), by repeat (first | (with_reducible first | exact HB.out | apply below_alloc | apply pw_below_drewN | apply below_drew1 | refine below_set ?_ GE101.out) | exact HB.out)⟩
                · replace c27 := Bool.eq_false_iff.mpr c27
                  subst c27
                  have H1 : (some (Go.bits .or .i64 t103 t106, false)) = some (r1, r2) := by rw [if_neg (show ¬ (false = true) by decide)] at H; exact H
                  clear H
                  have H := H1
                  clear H1
                  simp only [Option.some.injEq, Prod.mk.injEq] at H
                  obtain ⟨rfl, rfl⟩ := H
                  have hcz32_0 : wc.cell? ⟨gb101, 0, none⟩ = some (.int .i64 a0_0) := (blk_cell BK101.out 0).trans rfl
                  have hcz32_1 : wc.cell? ⟨gb101, 1, none⟩ = some (.slice A0_1 l0_1.length c0_1) := (blk_cell BK101.out 1).trans rfl
                  have hfz32_0 := blk_frozen BK101.out 0
                  have hfz32_1 := blk_frozen BK101.out 1
                  have p102 : 0 ≤ (0 : Int) := (by omega)
                  have q102 : 0 < (l0_1.length : Int) := of_decide_eq_true (by first | (with_reducible assumption) | assumption)
                  obtain ⟨ad102, A102_1, c102_1, e102, hx102_0, hx102_1, hl102_1, hi102_1⟩ := at_T39 HR0_1.out 0 p102 q102
                  cases e102
                  have qi102 : (0 < l0_1.length) = True := eq_true (by omega)
                  (try rw [show ((0 : Int)).toNat = 0 from rfl] at hx102_0)
                  (try rw [show 0 * 2 = 0 from rfl] at hx102_0)
                  (try rw [Addr.add_zero'] at hx102_0)
                  (try rw [show ((0 : Int)).toNat = 0 from rfl] at hx102_1)
                  (try rw [show 0 * 2 = 0 from rfl] at hx102_1)
                  (try rw [Addr.add_zero'] at hx102_1)
                  replace hx102_0 := (HB.out.cell (World.block_lt_of_cell? w _ hx102_0)).trans hx102_0
                  replace hx102_1 := (HB.out.cell (World.block_lt_of_cell? w _ hx102_1)).trans hx102_1
                  have HR102_1 := Aside0.mk hi102_1
                  have HC102_1 := Aside0.mk hl102_1
                  clear hi102_1 hl102_1
                  replace p102 := eq_true p102
                  replace q102 := eq_true q102
                  go_wp2_with (first | ((with_reducible refine gate_callee (f := 86) rfl ?_); refine goesL_ (some 59) rfl rfl Try.func86 (by kernel_rfl) rfl #[.agg #[.int .i64 ((rd_T39 l0_1 0).f0), .slice A102_1 ((rd_T39 l0_1 0).f1).length c102_1], .int .i64 (wrap64 (a1 - 1))] rfl (by (try simp only [List.map_toArray, List.map_cons, List.map_nil]); first | done | rfl | (simp only [List.length_drop, List.length_take]; rfl)) ?_; (with_reducible refine (ih kj2 (by have := HJ2.out; omega) ((rd_T39 l0_1 0).f0) _ _ ((rd_T39 l0_1 0).f1) (wrap64 (a1 - 1)) t103 true _ ?side1 ?side2 A23.out).mono ?_); (case side1 => repeat (first | exact (Kd.C_below HR102_1.out HB.out) | (with_reducible refine Kd.C_alloc ?_ _) | (with_reducible refine Kd.C_drewN ?_ _) | (with_reducible refine Kd.C_drew ?_))); (case side2 => exact HC102_1.out); rintro e w33 ⟨rfl, hb⟩; refine ⟨_, rfl, ?_⟩; have n0_ := Aside0.mk (blk_below (g := gb101) (o := .cells #[.int .i64 a0_0, .slice (some ad102) l0_1.length c0_1] 39 (0, 0)) (by (with_reducible repeat (first | refine blk_drewN ?_ _ | refine blk_drew ?_ | refine blk_alloc ?_ _)); exact BK101.out) hb); have n1_ := Aside0.mk (below_step (by repeat (first | (with_reducible first | exact HB.out | apply below_alloc | apply pw_below_drewN | apply below_drew1 | refine below_set ?_ GE101.out) | exact HB.out)) hb); clear BK101; clear HB; have BK101 := n0_; have HB := n1_; clear n0_ n1_; (try clear hb); (try clear hb2); (try clear hk); (try clear hi); have hcz34_0 : w33.cell? ⟨gb101, 0, none⟩ = some (.int .i64 a0_0) := (blk_cell BK101.out 0).trans rfl; have hcz34_1 : w33.cell? ⟨gb101, 1, none⟩ = some (.slice (some ad102) l0_1.length c0_1) := (blk_cell BK101.out 1).trans rfl; have hfz34_0 := blk_frozen BK101.out 0; have hfz34_1 := blk_frozen BK101.out 1; have p105 : 0 ≤ (1 : Int) := (by omega); have q105 : 1 < (l0_1.length : Int) := of_decide_eq_true (by first | (with_reducible assumption) | assumption); obtain ⟨ad105, A105_1, c105_1, e105, hx105_0, hx105_1, hl105_1, hi105_1⟩ := at_T39 HR0_1.out 1 p105 q105; obtain rfl : ad102 = ad105 := (by injection e105); (try simp only [show (1 : Int).toNat = 1 from rfl, Nat.reduceMul, Nat.reduceEqDiff, Go.Addr.add, ↓reduceIte] at hx105_0); (try simp only [show (1 : Int).toNat = 1 from rfl, Nat.reduceMul, Nat.reduceEqDiff, Go.Addr.add, ↓reduceIte] at hx105_1); have qi105 : (1 < l0_1.length) = True := eq_true (by omega); (try rw [show ((1 : Int)).toNat = 1 from rfl] at hx105_0); (try rw [show 1 * 2 = 2 from rfl] at hx105_0); (try rw [show ((1 : Int)).toNat = 1 from rfl] at hx105_1); (try rw [show 1 * 2 = 2 from rfl] at hx105_1); replace hx105_0 := (HB.out.cell (World.block_lt_of_cell? w _ hx105_0)).trans hx105_0; replace hx105_1 := (HB.out.cell (World.block_lt_of_cell? w _ hx105_1)).trans hx105_1; have HR105_1 := Aside0.mk hi105_1; have HC105_1 := Aside0.mk hl105_1; clear hi105_1 hl105_1; replace p105 := eq_true p105; replace q105 := eq_true q105) | ((with_reducible refine gate_callee (f := 86) rfl ?_); refine goesL_ (some 69) rfl rfl Try.func86 (by kernel_rfl) rfl #[.agg #[.int .i64 ((rd_T39 l0_1 1).f0), .slice A105_1 ((rd_T39 l0_1 1).f1).length c105_1], .int .i64 (wrap64 (a1 - 1))] rfl (by (try simp only [List.map_toArray, List.map_cons, List.map_nil]); first | done | rfl | (simp only [List.length_drop, List.length_take]; rfl)) ?_; (with_reducible refine (ih kj2 (by have := HJ2.out; omega) ((rd_T39 l0_1 1).f0) _ _ ((rd_T39 l0_1 1).f1) (wrap64 (a1 - 1)) t106 false _ ?side1 ?side2 A25.out).mono ?_); (case side1 => repeat (first | exact (Kd.C_below HR105_1.out HB.out) | (with_reducible refine Kd.C_alloc ?_ _) | (with_reducible refine Kd.C_drewN ?_ _) | (with_reducible refine Kd.C_drew ?_))); (case side2 => exact HC105_1.out); rintro e w35 ⟨rfl, hb⟩; refine ⟨_, rfl, ?_⟩; have n0_ := Aside0.mk (blk_below (g := gb101) (o := .cells #[.int .i64 a0_0, .slice (some ad102) l0_1.length c0_1] 39 (0, 0)) (by (with_reducible repeat (first | refine blk_drewN ?_ _ | refine blk_drew ?_ | refine blk_alloc ?_ _)); exact BK101.out) hb); have n1_ := Aside0.mk (below_step (by repeat (first | (with_reducible first | exact HB.out | apply below_alloc | apply pw_below_drewN | apply below_drew1 | refine below_set ?_ GE101.out) | exact HB.out)) hb); clear BK101; clear HB; have BK101 := n0_; have HB := n1_; clear n0_ n1_; (try clear hb); (try clear hb2); (try clear hk); (try clear hi)))
                  go_ret2
                  exact ⟨by first | rfl | (simp [errW_none, errW_some] <;> rfl) | (simp [*, errW_none, errW_some] <;> rfl) | (clear HB; simp only [aside0_iff] at *; simp_all; done), by repeat (first | (with_reducible first | exact HB.out | apply below_alloc | apply pw_below_drewN | apply below_drew1 | refine below_set ?_ GE101.out) | exact HB.out)⟩
              · replace c26 := Bool.eq_false_iff.mpr c26
                subst c26
                have H1 : (some (Go.bits .or .i64 t103 t106, false)) = some (r1, r2) := by rw [if_neg (show ¬ (false = true) by decide)] at H; exact H
                clear H
                have H := H1
                clear H1
                simp only [Option.some.injEq, Prod.mk.injEq] at H
                obtain ⟨rfl, rfl⟩ := H
                have hcz36_0 : wc.cell? ⟨gb101, 0, none⟩ = some (.int .i64 a0_0) := (blk_cell BK101.out 0).trans rfl
                have hcz36_1 : wc.cell? ⟨gb101, 1, none⟩ = some (.slice A0_1 l0_1.length c0_1) := (blk_cell BK101.out 1).trans rfl
                have hfz36_0 := blk_frozen BK101.out 0
                have hfz36_1 := blk_frozen BK101.out 1
                have p102 : 0 ≤ (0 : Int) := (by omega)
                have q102 : 0 < (l0_1.length : Int) := of_decide_eq_true (by first | (with_reducible assumption) | assumption)
                obtain ⟨ad102, A102_1, c102_1, e102, hx102_0, hx102_1, hl102_1, hi102_1⟩ := at_T39 HR0_1.out 0 p102 q102
                cases e102
                have qi102 : (0 < l0_1.length) = True := eq_true (by omega)
                (try rw [show ((0 : Int)).toNat = 0 from rfl] at hx102_0)
                (try rw [show 0 * 2 = 0 from rfl] at hx102_0)
                (try rw [Addr.add_zero'] at hx102_0)
                (try rw [show ((0 : Int)).toNat = 0 from rfl] at hx102_1)
                (try rw [show 0 * 2 = 0 from rfl] at hx102_1)
                (try rw [Addr.add_zero'] at hx102_1)
                replace hx102_0 := (HB.out.cell (World.block_lt_of_cell? w _ hx102_0)).trans hx102_0
                replace hx102_1 := (HB.out.cell (World.block_lt_of_cell? w _ hx102_1)).trans hx102_1
                have HR102_1 := Aside0.mk hi102_1
                have HC102_1 := Aside0.mk hl102_1
                clear hi102_1 hl102_1
                replace p102 := eq_true p102
                replace q102 := eq_true q102
                go_wp2_with (first | ((with_reducible refine gate_callee (f := 86) rfl ?_); refine goesL_ (some 59) rfl rfl Try.func86 (by kernel_rfl) rfl #[.agg #[.int .i64 ((rd_T39 l0_1 0).f0), .slice A102_1 ((rd_T39 l0_1 0).f1).length c102_1], .int .i64 (wrap64 (a1 - 1))] rfl (by (try simp only [List.map_toArray, List.map_cons, List.map_nil]); first | done | rfl | (simp only [List.length_drop, List.length_take]; rfl)) ?_; (with_reducible refine (ih kj2 (by have := HJ2.out; omega) ((rd_T39 l0_1 0).f0) _ _ ((rd_T39 l0_1 0).f1) (wrap64 (a1 - 1)) t103 false _ ?side1 ?side2 A23.out).mono ?_); (case side1 => repeat (first | exact (Kd.C_below HR102_1.out HB.out) | (with_reducible refine Kd.C_alloc ?_ _) | (with_reducible refine Kd.C_drewN ?_ _) | (with_reducible refine Kd.C_drew ?_))); (case side2 => exact HC102_1.out); rintro e w37 ⟨rfl, hb⟩; refine ⟨_, rfl, ?_⟩; have n0_ := Aside0.mk (blk_below (g := gb101) (o := .cells #[.int .i64 a0_0, .slice (some ad102) l0_1.length c0_1] 39 (0, 0)) (by (with_reducible repeat (first | refine blk_drewN ?_ _ | refine blk_drew ?_ | refine blk_alloc ?_ _)); exact BK101.out) hb); have n1_ := Aside0.mk (below_step (by repeat (first | (with_reducible first | exact HB.out | apply below_alloc | apply pw_below_drewN | apply below_drew1 | refine below_set ?_ GE101.out) | exact HB.out)) hb); clear BK101; clear HB; have BK101 := n0_; have HB := n1_; clear n0_ n1_; (try clear hb); (try clear hb2); (try clear hk); (try clear hi); have hcz38_0 : w37.cell? ⟨gb101, 0, none⟩ = some (.int .i64 a0_0) := (blk_cell BK101.out 0).trans rfl; have hcz38_1 : w37.cell? ⟨gb101, 1, none⟩ = some (.slice (some ad102) l0_1.length c0_1) := (blk_cell BK101.out 1).trans rfl; have hfz38_0 := blk_frozen BK101.out 0; have hfz38_1 := blk_frozen BK101.out 1; have p105 : 0 ≤ (1 : Int) := (by omega); have q105 : 1 < (l0_1.length : Int) := of_decide_eq_true (by first | (with_reducible assumption) | assumption); obtain ⟨ad105, A105_1, c105_1, e105, hx105_0, hx105_1, hl105_1, hi105_1⟩ := at_T39 HR0_1.out 1 p105 q105; obtain rfl : ad102 = ad105 := (by injection e105); (try simp only [show (1 : Int).toNat = 1 from rfl, Nat.reduceMul, Nat.reduceEqDiff, Go.Addr.add, ↓reduceIte] at hx105_0); (try simp only [show (1 : Int).toNat = 1 from rfl, Nat.reduceMul, Nat.reduceEqDiff, Go.Addr.add, ↓reduceIte] at hx105_1); have qi105 : (1 < l0_1.length) = True := eq_true (by omega); (try rw [show ((1 : Int)).toNat = 1 from rfl] at hx105_0); (try rw [show 1 * 2 = 2 from rfl] at hx105_0); (try rw [show ((1 : Int)).toNat = 1 from rfl] at hx105_1); (try rw [show 1 * 2 = 2 from rfl] at hx105_1); replace hx105_0 := (HB.out.cell (World.block_lt_of_cell? w _ hx105_0)).trans hx105_0; replace hx105_1 := (HB.out.cell (World.block_lt_of_cell? w _ hx105_1)).trans hx105_1; have HR105_1 := Aside0.mk hi105_1; have HC105_1 := Aside0.mk hl105_1; clear hi105_1 hl105_1; replace p105 := eq_true p105; replace q105 := eq_true q105) | ((with_reducible refine gate_callee (f := 86) rfl ?_); refine goesL_ (some 69) rfl rfl Try.func86 (by kernel_rfl) rfl #[.agg #[.int .i64 ((rd_T39 l0_1 1).f0), .slice A105_1 ((rd_T39 l0_1 1).f1).length c105_1], .int .i64 (wrap64 (a1 - 1))] rfl (by (try simp only [List.map_toArray, List.map_cons, List.map_nil]); first | done | rfl | (simp only [List.length_drop, List.length_take]; rfl)) ?_; (with_reducible refine (ih kj2 (by have := HJ2.out; omega) ((rd_T39 l0_1 1).f0) _ _ ((rd_T39 l0_1 1).f1) (wrap64 (a1 - 1)) t106 t107 _ ?side1 ?side2 A25.out).mono ?_); (case side1 => repeat (first | exact (Kd.C_below HR105_1.out HB.out) | (with_reducible refine Kd.C_alloc ?_ _) | (with_reducible refine Kd.C_drewN ?_ _) | (with_reducible refine Kd.C_drew ?_))); (case side2 => exact HC105_1.out); rintro e w39 ⟨rfl, hb⟩; refine ⟨_, rfl, ?_⟩; have n0_ := Aside0.mk (blk_below (g := gb101) (o := .cells #[.int .i64 a0_0, .slice (some ad102) l0_1.length c0_1] 39 (0, 0)) (by (with_reducible repeat (first | refine blk_drewN ?_ _ | refine blk_drew ?_ | refine blk_alloc ?_ _)); exact BK101.out) hb); have n1_ := Aside0.mk (below_step (by repeat (first | (with_reducible first | exact HB.out | apply below_alloc | apply pw_below_drewN | apply below_drew1 | refine below_set ?_ GE101.out) | exact HB.out)) hb); clear BK101; clear HB; have BK101 := n0_; have HB := n1_; clear n0_ n1_; (try clear hb); (try clear hb2); (try clear hk); (try clear hi)))
                go_ret2
                exact ⟨by first | rfl | (simp [errW_none, errW_some] <;> rfl) | (simp [*, errW_none, errW_some] <;> rfl) | (clear HB; simp only [aside0_iff] at *; simp_all; done), by repeat (first | (with_reducible first | exact HB.out | apply below_alloc | apply pw_below_drewN | apply below_drew1 | refine below_set ?_ GE101.out) | exact HB.out)⟩
            · rw [if_neg c24] at H
              exact absurd H (by simp)
          · rw [if_neg c22] at H
            exact absurd H (by simp)

end Go.Proofs.Ytdegbnjnbpjdfaa.T
