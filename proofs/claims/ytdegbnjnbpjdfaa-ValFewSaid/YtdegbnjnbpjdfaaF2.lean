/- Go functions of this claim as Lean functions, and that each call comes to what its Lean function says; written for this claim by a program of this session (mkprint.py, over the kit's printer). Conditions: those in each theorem. -/
import Derived.Test.YtdegbnjnbpjdfaaF0
import Derived.Test.YtdegbnjnbpjdfaaF1
namespace Go.Proofs.Ytdegbnjnbpjdfaa.F
open Go.RowKit Go.Proofs.YtdegbnjnbpjdfaaW.PrintWords Go.Proofs.YtdegbnjnbpjdfaaW.PrintLast Go.Proofs.YtdegbnjnbpjdfaaW.PrintMore
attribute [local go_sem] max2_int min2_int max_two min_two max_three min_three max_four min_four   -- for this text's walks alone
set_option linter.unusedVariables false
set_option linter.unusedSimpArgs false

attribute [local go_sem high] eqA25
/-! ### val_Of: function 21 -/
def val_Of.f (a0 : Int) : Option (Int × Int) := some (0, a0)
set_option maxHeartbeats 8000000 in
set_option maxRecDepth 100000 in
theorem val_Of.calls (a0 : Int) (r1 : Int) (r2 : Int) (w : World) (h : val_Of.f a0 = some (r1, r2)) :
    Calls Try.prog 21 #[.int .i64 a0] w fun e w' => e = .returned (.agg #[.int .i64 r1, .int .i64 r2]) ∧ Below w.heap.size w w' := by
  have hu25 := Try.underlying25
  have HB := Aside0.mk (Below.refl w.heap.size w)
  have H : (some (0, a0)) = some (r1, r2) := h
  clear h
  simp only [Option.some.injEq, Prod.mk.injEq] at H
  obtain ⟨rfl, rfl⟩ := H
  go_enter Try.func21, Try.ntmps21
  go_wp2_with (first | ((with_reducible refine gate_dst (N := 2) rfl ?_); refine box_event ?hg (N := 2) ?hd (cs := #[.int .i64 0, .int .i64 0]) (t := 25) ?hr ?_; (case hd => rfl); (case hg => rfl); (case hr => first | (go_simp; done) | (go_simp; rfl)); intro gb101 hg w2 hbox hb; have n0_ := Aside0.mk (below_step (by repeat (first | (with_reducible first | exact HB.out | apply below_alloc | apply pw_below_drewN | apply below_drew1) | exact HB.out)) hb); have n1_ := Aside0.mk (hbox); have n2_ := Aside0.mk ((by rw [hg]; exact (below_size (by repeat (first | (with_reducible first | exact HB.out | apply below_alloc | apply pw_below_drewN | apply below_drew1) | exact HB.out))) : w.heap.size ≤ gb101)); have n3_ := Aside0.mk ((by rw [hg]; exact (below_size (by repeat (first | (with_reducible first | exact HB.out | apply below_alloc | apply pw_below_drewN | apply below_drew1) | exact HB.out))) : w.heap.size ≤ gb101)); clear HB; have HB := n0_; have BK101 := n1_; have GW101 := n2_; have GE101 := n3_; clear n0_ n1_ n2_ n3_; clear hb hbox hg; have hcz3_0 : w2.cell? ⟨gb101, 0, none⟩ = some (.int .i64 0) := (blk_cell BK101.out 0).trans rfl; have hcz3_1 : w2.cell? ⟨gb101, 1, none⟩ = some (.int .i64 0) := (blk_cell BK101.out 1).trans rfl; have hfz3_0 := blk_frozen BK101.out 0; have hfz3_1 := blk_frozen BK101.out 1))
  refine bodyPost_ret (results_cell_row rfl _ _ gb101 25 #[.int .i64 0, .int .i64 a0] (0, 0) _ rfl (by (with_reducible repeat (first | refine blk_drewN ?_ _ | refine blk_drew ?_ | refine blk_alloc ?_ _)); refine blk_put (cs := #[.int .i64 0, .int .i64 0]) ?_ 1 _ rfl; (with_reducible repeat (first | refine blk_drewN ?_ _ | refine blk_drew ?_ | refine blk_alloc ?_ _)); refine blk_put (cs := #[.int .i64 0, .int .i64 0]) ?_ 0 _ rfl; (with_reducible repeat (first | refine blk_drewN ?_ _ | refine blk_drew ?_ | refine blk_alloc ?_ _)); exact BK101.out) Try.underlying25 rfl (by kernel_rfl)) rfl ?_
  exact ⟨by first | rfl | (simp [errW_none, errW_some] <;> rfl) | (simp [*, errW_none, errW_some] <;> rfl) | (clear HB; simp only [aside0_iff] at *; simp_all; done), by repeat (first | (with_reducible first | exact HB.out | apply below_alloc | apply pw_below_drewN | apply below_drew1 | refine below_set ?_ GE101.out) | exact HB.out)⟩

/-! ### val_True: function 54 -/
def val_True.f (a0_0 : Int) (a0_1 : Int) : Option (Bool) := if a0_0 = 0 then (some (a0_1 != 0)) else (some false)
set_option maxHeartbeats 8000000 in
set_option maxRecDepth 100000 in
theorem val_True.calls (a0_0 : Int) (a0_1 : Int) (r : Bool) (w : World) (h : val_True.f a0_0 a0_1 = some r) :
    Calls Try.prog 54 #[.agg #[.int .i64 a0_0, .int .i64 a0_1]] w fun e w' => e = .returned (.bool r) ∧ Below w.heap.size w w' := by
  have hu25 := Try.underlying25
  have HB := Aside0.mk (Below.refl w.heap.size w)
  have H : (if a0_0 = 0 then (some (a0_1 != 0)) else (some false)) = some r := h
  clear h
  by_cases c2 : a0_0 = 0
  · rw [if_pos c2] at H
    have c2b0 : (a0_0 == 0) = true := beq_iff_eq.mpr c2
    have c2b1 : (a0_0 != 0) = false := bne_eq_false_iff_eq.mpr c2
    clear c2
    obtain rfl := Option.some.inj H
    go_enter Try.func54, Try.ntmps54
    go_wp2_with (first | ((with_reducible refine gate_dst (N := 1) rfl ?_); refine box_event ?hg (N := 1) ?hd (cs := #[.int .i64 a0_0, .int .i64 a0_1]) (t := 25) ?hr ?_; (case hd => rfl); (case hg => rfl); (case hr => first | (go_simp; done) | (go_simp; rfl)); intro gb102 hg w3 hbox hb; have n0_ := Aside0.mk (below_step (by repeat (first | (with_reducible first | exact HB.out | apply below_alloc | apply pw_below_drewN | apply below_drew1) | exact HB.out)) hb); have n1_ := Aside0.mk (hbox); have n2_ := Aside0.mk ((by rw [hg]; exact (below_size (by repeat (first | (with_reducible first | exact HB.out | apply below_alloc | apply pw_below_drewN | apply below_drew1) | exact HB.out))) : w.heap.size ≤ gb102)); have n3_ := Aside0.mk ((by rw [hg]; exact (below_size (by repeat (first | (with_reducible first | exact HB.out | apply below_alloc | apply pw_below_drewN | apply below_drew1) | exact HB.out))) : w.heap.size ≤ gb102)); clear HB; have HB := n0_; have BK102 := n1_; have GW102 := n2_; have GE102 := n3_; clear n0_ n1_ n2_ n3_; clear hb hbox hg; have hcz4_0 : w3.cell? ⟨gb102, 0, none⟩ = some (.int .i64 a0_0) := (blk_cell BK102.out 0).trans rfl; have hcz4_1 : w3.cell? ⟨gb102, 1, none⟩ = some (.int .i64 a0_1) := (blk_cell BK102.out 1).trans rfl; have hfz4_0 := blk_frozen BK102.out 0; have hfz4_1 := blk_frozen BK102.out 1))
    go_ret
    exact ⟨by first | rfl | (simp [errW_none, errW_some] <;> rfl) | (simp [*, errW_none, errW_some] <;> rfl) | (clear HB; simp only [aside0_iff] at *; simp_all; done), by repeat (first | (with_reducible first | exact HB.out | apply below_alloc | apply pw_below_drewN | apply below_drew1 | refine below_set ?_ GE102.out) | exact HB.out)⟩
  · rw [if_neg c2] at H
    have c2b0 : (a0_0 == 0) = false := beq_eq_false_iff_ne.mpr c2
    have c2b1 : (a0_0 != 0) = true := bne_iff_ne.mpr c2
    obtain rfl := Option.some.inj H
    go_enter Try.func54, Try.ntmps54
    go_wp2_with (first | ((with_reducible refine gate_dst (N := 1) rfl ?_); refine box_event ?hg (N := 1) ?hd (cs := #[.int .i64 a0_0, .int .i64 a0_1]) (t := 25) ?hr ?_; (case hd => rfl); (case hg => rfl); (case hr => first | (go_simp; done) | (go_simp; rfl)); intro gb102 hg w5 hbox hb; have n0_ := Aside0.mk (below_step (by repeat (first | (with_reducible first | exact HB.out | apply below_alloc | apply pw_below_drewN | apply below_drew1) | exact HB.out)) hb); have n1_ := Aside0.mk (hbox); have n2_ := Aside0.mk ((by rw [hg]; exact (below_size (by repeat (first | (with_reducible first | exact HB.out | apply below_alloc | apply pw_below_drewN | apply below_drew1) | exact HB.out))) : w.heap.size ≤ gb102)); have n3_ := Aside0.mk ((by rw [hg]; exact (below_size (by repeat (first | (with_reducible first | exact HB.out | apply below_alloc | apply pw_below_drewN | apply below_drew1) | exact HB.out))) : w.heap.size ≤ gb102)); clear HB; have HB := n0_; have BK102 := n1_; have GW102 := n2_; have GE102 := n3_; clear n0_ n1_ n2_ n3_; clear hb hbox hg; have hcz6_0 : w5.cell? ⟨gb102, 0, none⟩ = some (.int .i64 a0_0) := (blk_cell BK102.out 0).trans rfl; have hcz6_1 : w5.cell? ⟨gb102, 1, none⟩ = some (.int .i64 a0_1) := (blk_cell BK102.out 1).trans rfl; have hfz6_0 := blk_frozen BK102.out 0; have hfz6_1 := blk_frozen BK102.out 1))
    go_ret
    exact ⟨by first | rfl | (simp [errW_none, errW_some] <;> rfl) | (simp [*, errW_none, errW_some] <;> rfl) | (clear HB; simp only [aside0_iff] at *; simp_all; done), by repeat (first | (with_reducible first | exact HB.out | apply below_alloc | apply pw_below_drewN | apply below_drew1 | refine below_set ?_ GE102.out) | exact HB.out)⟩

/-! ### val_bad: function 74 -/
def val_bad.f  : Option (Int × Int) := some (2, 0)
set_option maxHeartbeats 8000000 in
set_option maxRecDepth 100000 in
theorem val_bad.calls  (r1 : Int) (r2 : Int) (w : World) (h : val_bad.f  = some (r1, r2)) :
    Calls Try.prog 74 #[] w fun e w' => e = .returned (.agg #[.int .i64 r1, .int .i64 r2]) ∧ Below w.heap.size w w' := by
  have hu25 := Try.underlying25
  have HB := Aside0.mk (Below.refl w.heap.size w)
  have H : (some (2, 0)) = some (r1, r2) := h
  clear h
  simp only [Option.some.injEq, Prod.mk.injEq] at H
  obtain ⟨rfl, rfl⟩ := H
  go_enter Try.func74, Try.ntmps74
  go_wp2_with (first | ((with_reducible refine gate_dst (N := 0) rfl ?_); refine box_event ?hg (N := 0) ?hd (cs := #[.int .i64 0, .int .i64 0]) (t := 25) ?hr ?_; (case hd => rfl); (case hg => rfl); (case hr => first | (go_simp; done) | (go_simp; rfl)); intro gb103 hg w1 hbox hb; have n0_ := Aside0.mk (below_step (by repeat (first | (with_reducible first | exact HB.out | apply below_alloc | apply pw_below_drewN | apply below_drew1) | exact HB.out)) hb); have n1_ := Aside0.mk (hbox); have n2_ := Aside0.mk ((by rw [hg]; exact (below_size (by repeat (first | (with_reducible first | exact HB.out | apply below_alloc | apply pw_below_drewN | apply below_drew1) | exact HB.out))) : w.heap.size ≤ gb103)); have n3_ := Aside0.mk ((by rw [hg]; exact (below_size (by repeat (first | (with_reducible first | exact HB.out | apply below_alloc | apply pw_below_drewN | apply below_drew1) | exact HB.out))) : w.heap.size ≤ gb103)); clear HB; have HB := n0_; have BK103 := n1_; have GW103 := n2_; have GE103 := n3_; clear n0_ n1_ n2_ n3_; clear hb hbox hg; have hcz2_0 : w1.cell? ⟨gb103, 0, none⟩ = some (.int .i64 0) := (blk_cell BK103.out 0).trans rfl; have hcz2_1 : w1.cell? ⟨gb103, 1, none⟩ = some (.int .i64 0) := (blk_cell BK103.out 1).trans rfl; have hfz2_0 := blk_frozen BK103.out 0; have hfz2_1 := blk_frozen BK103.out 1))
  refine bodyPost_ret (results_cell_row rfl _ _ gb103 25 #[.int .i64 2, .int .i64 0] (0, 0) _ rfl (by (with_reducible repeat (first | refine blk_drewN ?_ _ | refine blk_drew ?_ | refine blk_alloc ?_ _)); refine blk_put (cs := #[.int .i64 2, .int .i64 0]) ?_ 1 _ rfl; (with_reducible repeat (first | refine blk_drewN ?_ _ | refine blk_drew ?_ | refine blk_alloc ?_ _)); refine blk_put (cs := #[.int .i64 0, .int .i64 0]) ?_ 0 _ rfl; (with_reducible repeat (first | refine blk_drewN ?_ _ | refine blk_drew ?_ | refine blk_alloc ?_ _)); exact BK103.out) Try.underlying25 rfl (by kernel_rfl)) rfl ?_
  exact ⟨by first | rfl | (simp [errW_none, errW_some] <;> rfl) | (simp [*, errW_none, errW_some] <;> rfl) | (clear HB; simp only [aside0_iff] at *; simp_all; done), by repeat (first | (with_reducible first | exact HB.out | apply below_alloc | apply pw_below_drewN | apply below_drew1 | refine below_set ?_ GE103.out) | exact HB.out)⟩

/-! ### val_null: function 76 -/
def val_null.f  : Option (Int × Int) := some (1, 0)
set_option maxHeartbeats 8000000 in
set_option maxRecDepth 100000 in
theorem val_null.calls  (r1 : Int) (r2 : Int) (w : World) (h : val_null.f  = some (r1, r2)) :
    Calls Try.prog 76 #[] w fun e w' => e = .returned (.agg #[.int .i64 r1, .int .i64 r2]) ∧ Below w.heap.size w w' := by
  have hu25 := Try.underlying25
  have HB := Aside0.mk (Below.refl w.heap.size w)
  have H : (some (1, 0)) = some (r1, r2) := h
  clear h
  simp only [Option.some.injEq, Prod.mk.injEq] at H
  obtain ⟨rfl, rfl⟩ := H
  go_enter Try.func76, Try.ntmps76
  go_wp2_with (first | ((with_reducible refine gate_dst (N := 0) rfl ?_); refine box_event ?hg (N := 0) ?hd (cs := #[.int .i64 0, .int .i64 0]) (t := 25) ?hr ?_; (case hd => rfl); (case hg => rfl); (case hr => first | (go_simp; done) | (go_simp; rfl)); intro gb104 hg w1 hbox hb; have n0_ := Aside0.mk (below_step (by repeat (first | (with_reducible first | exact HB.out | apply below_alloc | apply pw_below_drewN | apply below_drew1) | exact HB.out)) hb); have n1_ := Aside0.mk (hbox); have n2_ := Aside0.mk ((by rw [hg]; exact (below_size (by repeat (first | (with_reducible first | exact HB.out | apply below_alloc | apply pw_below_drewN | apply below_drew1) | exact HB.out))) : w.heap.size ≤ gb104)); have n3_ := Aside0.mk ((by rw [hg]; exact (below_size (by repeat (first | (with_reducible first | exact HB.out | apply below_alloc | apply pw_below_drewN | apply below_drew1) | exact HB.out))) : w.heap.size ≤ gb104)); clear HB; have HB := n0_; have BK104 := n1_; have GW104 := n2_; have GE104 := n3_; clear n0_ n1_ n2_ n3_; clear hb hbox hg; have hcz2_0 : w1.cell? ⟨gb104, 0, none⟩ = some (.int .i64 0) := (blk_cell BK104.out 0).trans rfl; have hcz2_1 : w1.cell? ⟨gb104, 1, none⟩ = some (.int .i64 0) := (blk_cell BK104.out 1).trans rfl; have hfz2_0 := blk_frozen BK104.out 0; have hfz2_1 := blk_frozen BK104.out 1))
  refine bodyPost_ret (results_cell_row rfl _ _ gb104 25 #[.int .i64 1, .int .i64 0] (0, 0) _ rfl (by (with_reducible repeat (first | refine blk_drewN ?_ _ | refine blk_drew ?_ | refine blk_alloc ?_ _)); refine blk_put (cs := #[.int .i64 1, .int .i64 0]) ?_ 1 _ rfl; (with_reducible repeat (first | refine blk_drewN ?_ _ | refine blk_drew ?_ | refine blk_alloc ?_ _)); refine blk_put (cs := #[.int .i64 0, .int .i64 0]) ?_ 0 _ rfl; (with_reducible repeat (first | refine blk_drewN ?_ _ | refine blk_drew ?_ | refine blk_alloc ?_ _)); exact BK104.out) Try.underlying25 rfl (by kernel_rfl)) rfl ?_
  exact ⟨by first | rfl | (simp [errW_none, errW_some] <;> rfl) | (simp [*, errW_none, errW_some] <;> rfl) | (clear HB; simp only [aside0_iff] at *; simp_all; done), by repeat (first | (with_reducible first | exact HB.out | apply below_alloc | apply pw_below_drewN | apply below_drew1 | refine below_set ?_ GE104.out) | exact HB.out)⟩

/-! ### val_May: function 25 -/
def val_May.f (a0_0 : Int) (a0_1 : Int) : Option (Bool) := if a0_0 ≥ 0 then (if a0_0 < 3 then (if a0_0 = 0 then (some true) else (some (a0_1 == 0))) else (some false)) else (some false)
set_option maxHeartbeats 8000000 in
set_option maxRecDepth 100000 in
theorem val_May.calls (a0_0 : Int) (a0_1 : Int) (r : Bool) (w : World) (h : val_May.f a0_0 a0_1 = some r) :
    Calls Try.prog 25 #[.agg #[.int .i64 a0_0, .int .i64 a0_1]] w fun e w' => e = .returned (.bool r) ∧ Below w.heap.size w w' := by
  have hu25 := Try.underlying25
  have HB := Aside0.mk (Below.refl w.heap.size w)
  have H : (if a0_0 ≥ 0 then (if a0_0 < 3 then (if a0_0 = 0 then (some true) else (some (a0_1 == 0))) else (some false)) else (some false)) = some r := h
  clear h
  by_cases c2 : a0_0 ≥ 0
  · rw [if_pos c2] at H
    have c2b0 : decide (0 ≤ a0_0) = true := decide_eq_true c2
    clear c2
    by_cases c3 : a0_0 < 3
    · rw [if_pos c3] at H
      have c3b0 : decide (a0_0 < 3) = true := decide_eq_true c3
      clear c3
      by_cases c4 : a0_0 = 0
      · rw [if_pos c4] at H
        have c4b0 : (a0_0 == 0) = true := beq_iff_eq.mpr c4
        have c4b1 : (a0_0 != 0) = false := bne_eq_false_iff_eq.mpr c4
        clear c4
        obtain rfl := Option.some.inj H
        go_enter Try.func25, Try.ntmps25
        go_wp2_with (first | ((with_reducible refine gate_dst (N := 1) rfl ?_); refine box_event ?hg (N := 1) ?hd (cs := #[.int .i64 a0_0, .int .i64 a0_1]) (t := 25) ?hr ?_; (case hd => rfl); (case hg => rfl); (case hr => first | (go_simp; done) | (go_simp; rfl)); intro gb105 hg w5 hbox hb; have n0_ := Aside0.mk (below_step (by repeat (first | (with_reducible first | exact HB.out | apply below_alloc | apply pw_below_drewN | apply below_drew1) | exact HB.out)) hb); have n1_ := Aside0.mk (hbox); have n2_ := Aside0.mk ((by rw [hg]; exact (below_size (by repeat (first | (with_reducible first | exact HB.out | apply below_alloc | apply pw_below_drewN | apply below_drew1) | exact HB.out))) : w.heap.size ≤ gb105)); have n3_ := Aside0.mk ((by rw [hg]; exact (below_size (by repeat (first | (with_reducible first | exact HB.out | apply below_alloc | apply pw_below_drewN | apply below_drew1) | exact HB.out))) : w.heap.size ≤ gb105)); clear HB; have HB := n0_; have BK105 := n1_; have GW105 := n2_; have GE105 := n3_; clear n0_ n1_ n2_ n3_; clear hb hbox hg; have hcz6_0 : w5.cell? ⟨gb105, 0, none⟩ = some (.int .i64 a0_0) := (blk_cell BK105.out 0).trans rfl; have hcz6_1 : w5.cell? ⟨gb105, 1, none⟩ = some (.int .i64 a0_1) := (blk_cell BK105.out 1).trans rfl; have hfz6_0 := blk_frozen BK105.out 0; have hfz6_1 := blk_frozen BK105.out 1))
        go_ret
        exact ⟨by first | rfl | (simp [errW_none, errW_some] <;> rfl) | (simp [*, errW_none, errW_some] <;> rfl) | (clear HB; simp only [aside0_iff] at *; simp_all; done), by repeat (first | (with_reducible first | exact HB.out | apply below_alloc | apply pw_below_drewN | apply below_drew1 | refine below_set ?_ GE105.out) | exact HB.out)⟩
      · rw [if_neg c4] at H
        have c4b0 : (a0_0 == 0) = false := beq_eq_false_iff_ne.mpr c4
        have c4b1 : (a0_0 != 0) = true := bne_iff_ne.mpr c4
        obtain rfl := Option.some.inj H
        go_enter Try.func25, Try.ntmps25
        go_wp2_with (first | ((with_reducible refine gate_dst (N := 1) rfl ?_); refine box_event ?hg (N := 1) ?hd (cs := #[.int .i64 a0_0, .int .i64 a0_1]) (t := 25) ?hr ?_; (case hd => rfl); (case hg => rfl); (case hr => first | (go_simp; done) | (go_simp; rfl)); intro gb105 hg w7 hbox hb; have n0_ := Aside0.mk (below_step (by repeat (first | (with_reducible first | exact HB.out | apply below_alloc | apply pw_below_drewN | apply below_drew1) | exact HB.out)) hb); have n1_ := Aside0.mk (hbox); have n2_ := Aside0.mk ((by rw [hg]; exact (below_size (by repeat (first | (with_reducible first | exact HB.out | apply below_alloc | apply pw_below_drewN | apply below_drew1) | exact HB.out))) : w.heap.size ≤ gb105)); have n3_ := Aside0.mk ((by rw [hg]; exact (below_size (by repeat (first | (with_reducible first | exact HB.out | apply below_alloc | apply pw_below_drewN | apply below_drew1) | exact HB.out))) : w.heap.size ≤ gb105)); clear HB; have HB := n0_; have BK105 := n1_; have GW105 := n2_; have GE105 := n3_; clear n0_ n1_ n2_ n3_; clear hb hbox hg; have hcz8_0 : w7.cell? ⟨gb105, 0, none⟩ = some (.int .i64 a0_0) := (blk_cell BK105.out 0).trans rfl; have hcz8_1 : w7.cell? ⟨gb105, 1, none⟩ = some (.int .i64 a0_1) := (blk_cell BK105.out 1).trans rfl; have hfz8_0 := blk_frozen BK105.out 0; have hfz8_1 := blk_frozen BK105.out 1))
        go_ret
        exact ⟨by first | rfl | (simp [errW_none, errW_some] <;> rfl) | (simp [*, errW_none, errW_some] <;> rfl) | (clear HB; simp only [aside0_iff] at *; simp_all; done), by repeat (first | (with_reducible first | exact HB.out | apply below_alloc | apply pw_below_drewN | apply below_drew1 | refine below_set ?_ GE105.out) | exact HB.out)⟩
    · rw [if_neg c3] at H
      have c3b0 : decide (a0_0 < 3) = false := decide_eq_false c3
      clear c3
      obtain rfl := Option.some.inj H
      go_enter Try.func25, Try.ntmps25
      go_wp2_with (first | ((with_reducible refine gate_dst (N := 1) rfl ?_); refine box_event ?hg (N := 1) ?hd (cs := #[.int .i64 a0_0, .int .i64 a0_1]) (t := 25) ?hr ?_; (case hd => rfl); (case hg => rfl); (case hr => first | (go_simp; done) | (go_simp; rfl)); intro gb105 hg w9 hbox hb; have n0_ := Aside0.mk (below_step (by repeat (first | (with_reducible first | exact HB.out | apply below_alloc | apply pw_below_drewN | apply below_drew1) | exact HB.out)) hb); have n1_ := Aside0.mk (hbox); have n2_ := Aside0.mk ((by rw [hg]; exact (below_size (by repeat (first | (with_reducible first | exact HB.out | apply below_alloc | apply pw_below_drewN | apply below_drew1) | exact HB.out))) : w.heap.size ≤ gb105)); have n3_ := Aside0.mk ((by rw [hg]; exact (below_size (by repeat (first | (with_reducible first | exact HB.out | apply below_alloc | apply pw_below_drewN | apply below_drew1) | exact HB.out))) : w.heap.size ≤ gb105)); clear HB; have HB := n0_; have BK105 := n1_; have GW105 := n2_; have GE105 := n3_; clear n0_ n1_ n2_ n3_; clear hb hbox hg; have hcz10_0 : w9.cell? ⟨gb105, 0, none⟩ = some (.int .i64 a0_0) := (blk_cell BK105.out 0).trans rfl; have hcz10_1 : w9.cell? ⟨gb105, 1, none⟩ = some (.int .i64 a0_1) := (blk_cell BK105.out 1).trans rfl; have hfz10_0 := blk_frozen BK105.out 0; have hfz10_1 := blk_frozen BK105.out 1))
      go_ret
      exact ⟨by first | rfl | (simp [errW_none, errW_some] <;> rfl) | (simp [*, errW_none, errW_some] <;> rfl) | (clear HB; simp only [aside0_iff] at *; simp_all; done), by repeat (first | (with_reducible first | exact HB.out | apply below_alloc | apply pw_below_drewN | apply below_drew1 | refine below_set ?_ GE105.out) | exact HB.out)⟩
  · rw [if_neg c2] at H
    have c2b0 : decide (0 ≤ a0_0) = false := decide_eq_false c2
    clear c2
    obtain rfl := Option.some.inj H
    go_enter Try.func25, Try.ntmps25
    go_wp2_with (first | ((with_reducible refine gate_dst (N := 1) rfl ?_); refine box_event ?hg (N := 1) ?hd (cs := #[.int .i64 a0_0, .int .i64 a0_1]) (t := 25) ?hr ?_; (case hd => rfl); (case hg => rfl); (case hr => first | (go_simp; done) | (go_simp; rfl)); intro gb105 hg w11 hbox hb; have n0_ := Aside0.mk (below_step (by repeat (first | (with_reducible first | exact HB.out | apply below_alloc | apply pw_below_drewN | apply below_drew1) | exact HB.out)) hb); have n1_ := Aside0.mk (hbox); have n2_ := Aside0.mk ((by rw [hg]; exact (below_size (by repeat (first | (with_reducible first | exact HB.out | apply below_alloc | apply pw_below_drewN | apply below_drew1) | exact HB.out))) : w.heap.size ≤ gb105)); have n3_ := Aside0.mk ((by rw [hg]; exact (below_size (by repeat (first | (with_reducible first | exact HB.out | apply below_alloc | apply pw_below_drewN | apply below_drew1) | exact HB.out))) : w.heap.size ≤ gb105)); clear HB; have HB := n0_; have BK105 := n1_; have GW105 := n2_; have GE105 := n3_; clear n0_ n1_ n2_ n3_; clear hb hbox hg; have hcz12_0 : w11.cell? ⟨gb105, 0, none⟩ = some (.int .i64 a0_0) := (blk_cell BK105.out 0).trans rfl; have hcz12_1 : w11.cell? ⟨gb105, 1, none⟩ = some (.int .i64 a0_1) := (blk_cell BK105.out 1).trans rfl; have hfz12_0 := blk_frozen BK105.out 0; have hfz12_1 := blk_frozen BK105.out 1))
    go_ret
    exact ⟨by first | rfl | (simp [errW_none, errW_some] <;> rfl) | (simp [*, errW_none, errW_some] <;> rfl) | (clear HB; simp only [aside0_iff] at *; simp_all; done), by repeat (first | (with_reducible first | exact HB.out | apply below_alloc | apply pw_below_drewN | apply below_drew1 | refine below_set ?_ GE105.out) | exact HB.out)⟩

/-! ### val_fine: function 82 -/
def val_fine.f (a0_0 : Int) (a0_1 : Int) : Option (Int × Int) := (val_May.f a0_0 a0_1).bind fun t108 => (if t108 = true then (some (a0_0, a0_1)) else ((val_bad.f).bind fun bt109 => (some (bt109.1, bt109.2))))
set_option maxHeartbeats 8000000 in
set_option maxRecDepth 100000 in
theorem val_fine.calls (a0_0 : Int) (a0_1 : Int) (r1 : Int) (r2 : Int) (w : World) (h : val_fine.f a0_0 a0_1 = some (r1, r2)) :
    Calls Try.prog 82 #[.agg #[.int .i64 a0_0, .int .i64 a0_1]] w fun e w' => e = .returned (.agg #[.int .i64 r1, .int .i64 r2]) ∧ Below w.heap.size w w' := by
  have hu25 := Try.underlying25
  have HB := Aside0.mk (Below.refl w.heap.size w)
  have H : ((val_May.f a0_0 a0_1).bind fun t108 => (if t108 = true then (some (a0_0, a0_1)) else ((val_bad.f).bind fun bt109 => (some (bt109.1, bt109.2))))) = some (r1, r2) := h
  clear h
  replace H := Option.bind_eq_some_iff.mp H
  obtain ⟨t108, A20, H⟩ := H
  replace H : (if t108 = true then (some (a0_0, a0_1)) else ((val_bad.f).bind fun bt109 => (some (bt109.1, bt109.2)))) = some (r1, r2) := H
  have A2 := Aside0.mk A20
  clear A20
  by_cases c3 : t108 = true
  · subst c3
    have H1 : (some (a0_0, a0_1)) = some (r1, r2) := by rw [if_pos rfl] at H; exact H
    clear H
    have H := H1
    clear H1
    simp only [Option.some.injEq, Prod.mk.injEq] at H
    obtain ⟨rfl, rfl⟩ := H
    go_enter Try.func82, Try.ntmps82
    go_wp2_with (first | ((with_reducible refine gate_dst (N := 1) rfl ?_); refine box_event ?hg (N := 1) ?hd (cs := #[.int .i64 a0_0, .int .i64 a0_1]) (t := 25) ?hr ?_; (case hd => rfl); (case hg => rfl); (case hr => first | (go_simp; done) | (go_simp; rfl)); intro gb106 hg w4 hbox hb; have n0_ := Aside0.mk (below_step (by repeat (first | (with_reducible first | exact HB.out | apply below_alloc | apply pw_below_drewN | apply below_drew1) | exact HB.out)) hb); have n1_ := Aside0.mk (hbox); have n2_ := Aside0.mk ((by rw [hg]; exact (below_size (by repeat (first | (with_reducible first | exact HB.out | apply below_alloc | apply pw_below_drewN | apply below_drew1) | exact HB.out))) : w.heap.size ≤ gb106)); have n3_ := Aside0.mk ((by rw [hg]; exact (below_size (by repeat (first | (with_reducible first | exact HB.out | apply below_alloc | apply pw_below_drewN | apply below_drew1) | exact HB.out))) : w.heap.size ≤ gb106)); clear HB; have HB := n0_; have BK106 := n1_; have GW106 := n2_; have GE106 := n3_; clear n0_ n1_ n2_ n3_; clear hb hbox hg) | ((with_reducible refine gate_dst (N := 2) rfl ?_); refine box_event ?hg (N := 2) ?hd (cs := #[.int .i64 0, .int .i64 0]) (t := 25) ?hr ?_; (case hd => rfl); (case hg => rfl); (case hr => first | (go_simp; done) | (go_simp; rfl)); intro gb107 hg w5 hbox hb; have n0_ := Aside0.mk (blk_below (g := gb106) (o := .cells #[.int .i64 a0_0, .int .i64 a0_1] 25 (0, 0)) (by (with_reducible repeat (first | refine blk_drewN ?_ _ | refine blk_drew ?_ | refine blk_alloc ?_ _)); exact BK106.out) hb); have n1_ := Aside0.mk (below_step (by repeat (first | (with_reducible first | exact HB.out | apply below_alloc | apply pw_below_drewN | apply below_drew1 | refine below_set ?_ GE106.out) | exact HB.out)) hb); have n2_ := Aside0.mk (hbox); have n3_ := Aside0.mk ((by rw [hg]; exact (below_size (by repeat (first | (with_reducible first | exact HB.out | apply below_alloc | apply pw_below_drewN | apply below_drew1 | refine below_set ?_ GE106.out) | exact HB.out))) : w.heap.size ≤ gb107)); have n4_ := Aside0.mk ((by rw [hg]; exact (below_size (by repeat (first | (with_reducible first | exact HB.out | apply below_alloc | apply pw_below_drewN | apply below_drew1 | refine below_set ?_ GE106.out) | exact HB.out))) : w.heap.size ≤ gb107)); have n5_ := Aside0.mk ((by rw [hg]; exact Nat.ne_of_lt (blk_lt (g := gb106) (o := .cells #[.int .i64 a0_0, .int .i64 a0_1] 25 (0, 0)) (by (with_reducible repeat (first | refine blk_drewN ?_ _ | refine blk_drew ?_ | refine blk_alloc ?_ _)); exact BK106.out)) : gb106 ≠ gb107)); have n6_ := Aside0.mk ((by rw [hg]; exact Nat.ne_of_gt (blk_lt (g := gb106) (o := .cells #[.int .i64 a0_0, .int .i64 a0_1] 25 (0, 0)) (by (with_reducible repeat (first | refine blk_drewN ?_ _ | refine blk_drew ?_ | refine blk_alloc ?_ _)); exact BK106.out)) : gb107 ≠ gb106)); clear BK106; clear HB; have BK106 := n0_; have HB := n1_; have BK107 := n2_; have GW107 := n3_; have GE107 := n4_; have NB106_107 := n5_; have NB107_106 := n6_; clear n0_ n1_ n2_ n3_ n4_ n5_ n6_; clear hb hbox hg; have hnb6 := NB106_107.out; have hnc6 := NB107_106.out; have hcz7_0 : w5.cell? ⟨gb106, 0, none⟩ = some (.int .i64 a0_0) := (blk_cell BK106.out 0).trans rfl; have hcz7_1 : w5.cell? ⟨gb106, 1, none⟩ = some (.int .i64 a0_1) := (blk_cell BK106.out 1).trans rfl; have hfz7_0 := blk_frozen BK106.out 0; have hfz7_1 := blk_frozen BK106.out 1) | ((with_reducible refine gate_callee (f := 25) rfl ?_); refine goesL_ (some 4) rfl rfl Try.func25 (by kernel_rfl) rfl #[.agg #[.int .i64 a0_0, .int .i64 a0_1]] rfl (by (try simp only [List.map_toArray, List.map_cons, List.map_nil]); first | done | rfl | (simp only [List.length_drop, List.length_take]; rfl)) ?_; (with_reducible refine (val_May.calls a0_0 a0_1 true _ A2.out).mono ?_); rintro e w8 ⟨rfl, hb⟩; refine ⟨_, rfl, ?_⟩; have n0_ := Aside0.mk (blk_below (g := gb106) (o := .cells #[.int .i64 a0_0, .int .i64 a0_1] 25 (0, 0)) (by (with_reducible repeat (first | refine blk_drewN ?_ _ | refine blk_drew ?_ | refine blk_alloc ?_ _)); exact BK106.out) hb); have n1_ := Aside0.mk (blk_below (g := gb107) (o := .cells #[.int .i64 0, .int .i64 0] 25 (0, 0)) (by (with_reducible repeat (first | refine blk_drewN ?_ _ | refine blk_drew ?_ | refine blk_alloc ?_ _)); exact BK107.out) hb); have n2_ := Aside0.mk (below_step (by repeat (first | (with_reducible first | exact HB.out | apply below_alloc | apply pw_below_drewN | apply below_drew1 | refine below_set ?_ GE106.out | refine below_set ?_ GE107.out) | exact HB.out)) hb); clear BK106; clear BK107; clear HB; have BK106 := n0_; have BK107 := n1_; have HB := n2_; clear n0_ n1_ n2_; (try clear hb); (try clear hb2); (try clear hk); (try clear hi); have hcz9_0 : w8.cell? ⟨gb106, 0, none⟩ = some (.int .i64 a0_0) := (blk_cell BK106.out 0).trans rfl; have hcz9_1 : w8.cell? ⟨gb106, 1, none⟩ = some (.int .i64 a0_1) := (blk_cell BK106.out 1).trans rfl; have hfz9_0 := blk_frozen BK106.out 0; have hfz9_1 := blk_frozen BK106.out 1; have hcz10_0 : w8.cell? ⟨gb107, 0, none⟩ = some (.int .i64 0) := (blk_cell BK107.out 0).trans rfl; have hcz10_1 : w8.cell? ⟨gb107, 1, none⟩ = some (.int .i64 0) := (blk_cell BK107.out 1).trans rfl; have hfz10_0 := blk_frozen BK107.out 0; have hfz10_1 := blk_frozen BK107.out 1))
    refine bodyPost_ret (results_cell_row rfl _ _ gb107 25 #[.int .i64 a0_0, .int .i64 a0_1] (0, 0) _ rfl (by (with_reducible repeat (first | refine blk_drewN ?_ _ | refine blk_drew ?_ | refine blk_alloc ?_ _)); refine blk_put (cs := #[.int .i64 a0_0, .int .i64 0]) ?_ 1 _ rfl; (with_reducible repeat (first | refine blk_drewN ?_ _ | refine blk_drew ?_ | refine blk_alloc ?_ _)); refine blk_put (cs := #[.int .i64 0, .int .i64 0]) ?_ 0 _ rfl; (with_reducible repeat (first | refine blk_drewN ?_ _ | refine blk_drew ?_ | refine blk_alloc ?_ _)); exact BK107.out) Try.underlying25 rfl (by kernel_rfl)) rfl ?_
    exact ⟨by first | rfl | (simp [errW_none, errW_some] <;> rfl) | (simp [*, errW_none, errW_some] <;> rfl) | (clear HB; simp only [aside0_iff] at *; simp_all; done), by repeat (first | (with_reducible first | exact HB.out | apply below_alloc | apply pw_below_drewN | apply below_drew1 | refine below_set ?_ GE106.out | refine below_set ?_ GE107.out) | exact HB.out)⟩
  · replace c3 := Bool.eq_false_iff.mpr c3
    subst c3
    have H1 : ((val_bad.f).bind fun bt109 => (some (bt109.1, bt109.2))) = some (r1, r2) := by rw [if_neg (show ¬ (false = true) by decide)] at H; exact H
    clear H
    have H := H1
    clear H1
    replace H := Option.bind_eq_some_iff.mp H
    obtain ⟨⟨t109, t110⟩, A110, H⟩ := H
    replace H : (some (t109, t110)) = some (r1, r2) := H
    have A11 := Aside0.mk A110
    clear A110
    simp only [Option.some.injEq, Prod.mk.injEq] at H
    obtain ⟨rfl, rfl⟩ := H
    go_enter Try.func82, Try.ntmps82
    go_wp2_with (first | ((with_reducible refine gate_dst (N := 1) rfl ?_); refine box_event ?hg (N := 1) ?hd (cs := #[.int .i64 a0_0, .int .i64 a0_1]) (t := 25) ?hr ?_; (case hd => rfl); (case hg => rfl); (case hr => first | (go_simp; done) | (go_simp; rfl)); intro gb106 hg w12 hbox hb; have n0_ := Aside0.mk (below_step (by repeat (first | (with_reducible first | exact HB.out | apply below_alloc | apply pw_below_drewN | apply below_drew1) | exact HB.out)) hb); have n1_ := Aside0.mk (hbox); have n2_ := Aside0.mk ((by rw [hg]; exact (below_size (by repeat (first | (with_reducible first | exact HB.out | apply below_alloc | apply pw_below_drewN | apply below_drew1) | exact HB.out))) : w.heap.size ≤ gb106)); have n3_ := Aside0.mk ((by rw [hg]; exact (below_size (by repeat (first | (with_reducible first | exact HB.out | apply below_alloc | apply pw_below_drewN | apply below_drew1) | exact HB.out))) : w.heap.size ≤ gb106)); clear HB; have HB := n0_; have BK106 := n1_; have GW106 := n2_; have GE106 := n3_; clear n0_ n1_ n2_ n3_; clear hb hbox hg) | ((with_reducible refine gate_dst (N := 2) rfl ?_); refine box_event ?hg (N := 2) ?hd (cs := #[.int .i64 0, .int .i64 0]) (t := 25) ?hr ?_; (case hd => rfl); (case hg => rfl); (case hr => first | (go_simp; done) | (go_simp; rfl)); intro gb107 hg w13 hbox hb; have n0_ := Aside0.mk (blk_below (g := gb106) (o := .cells #[.int .i64 a0_0, .int .i64 a0_1] 25 (0, 0)) (by (with_reducible repeat (first | refine blk_drewN ?_ _ | refine blk_drew ?_ | refine blk_alloc ?_ _)); exact BK106.out) hb); have n1_ := Aside0.mk (below_step (by repeat (first | (with_reducible first | exact HB.out | apply below_alloc | apply pw_below_drewN | apply below_drew1 | refine below_set ?_ GE106.out) | exact HB.out)) hb); have n2_ := Aside0.mk (hbox); have n3_ := Aside0.mk ((by rw [hg]; exact (below_size (by repeat (first | (with_reducible first | exact HB.out | apply below_alloc | apply pw_below_drewN | apply below_drew1 | refine below_set ?_ GE106.out) | exact HB.out))) : w.heap.size ≤ gb107)); have n4_ := Aside0.mk ((by rw [hg]; exact (below_size (by repeat (first | (with_reducible first | exact HB.out | apply below_alloc | apply pw_below_drewN | apply below_drew1 | refine below_set ?_ GE106.out) | exact HB.out))) : w.heap.size ≤ gb107)); have n5_ := Aside0.mk ((by rw [hg]; exact Nat.ne_of_lt (blk_lt (g := gb106) (o := .cells #[.int .i64 a0_0, .int .i64 a0_1] 25 (0, 0)) (by (with_reducible repeat (first | refine blk_drewN ?_ _ | refine blk_drew ?_ | refine blk_alloc ?_ _)); exact BK106.out)) : gb106 ≠ gb107)); have n6_ := Aside0.mk ((by rw [hg]; exact Nat.ne_of_gt (blk_lt (g := gb106) (o := .cells #[.int .i64 a0_0, .int .i64 a0_1] 25 (0, 0)) (by (with_reducible repeat (first | refine blk_drewN ?_ _ | refine blk_drew ?_ | refine blk_alloc ?_ _)); exact BK106.out)) : gb107 ≠ gb106)); clear BK106; clear HB; have BK106 := n0_; have HB := n1_; have BK107 := n2_; have GW107 := n3_; have GE107 := n4_; have NB106_107 := n5_; have NB107_106 := n6_; clear n0_ n1_ n2_ n3_ n4_ n5_ n6_; clear hb hbox hg; have hnb14 := NB106_107.out; have hnc14 := NB107_106.out; have hcz15_0 : w13.cell? ⟨gb106, 0, none⟩ = some (.int .i64 a0_0) := (blk_cell BK106.out 0).trans rfl; have hcz15_1 : w13.cell? ⟨gb106, 1, none⟩ = some (.int .i64 a0_1) := (blk_cell BK106.out 1).trans rfl; have hfz15_0 := blk_frozen BK106.out 0; have hfz15_1 := blk_frozen BK106.out 1) | ((with_reducible refine gate_callee (f := 25) rfl ?_); refine goesL_ (some 4) rfl rfl Try.func25 (by kernel_rfl) rfl #[.agg #[.int .i64 a0_0, .int .i64 a0_1]] rfl (by (try simp only [List.map_toArray, List.map_cons, List.map_nil]); first | done | rfl | (simp only [List.length_drop, List.length_take]; rfl)) ?_; (with_reducible refine (val_May.calls a0_0 a0_1 false _ A2.out).mono ?_); rintro e w16 ⟨rfl, hb⟩; refine ⟨_, rfl, ?_⟩; have n0_ := Aside0.mk (blk_below (g := gb106) (o := .cells #[.int .i64 a0_0, .int .i64 a0_1] 25 (0, 0)) (by (with_reducible repeat (first | refine blk_drewN ?_ _ | refine blk_drew ?_ | refine blk_alloc ?_ _)); exact BK106.out) hb); have n1_ := Aside0.mk (blk_below (g := gb107) (o := .cells #[.int .i64 0, .int .i64 0] 25 (0, 0)) (by (with_reducible repeat (first | refine blk_drewN ?_ _ | refine blk_drew ?_ | refine blk_alloc ?_ _)); exact BK107.out) hb); have n2_ := Aside0.mk (below_step (by repeat (first | (with_reducible first | exact HB.out | apply below_alloc | apply pw_below_drewN | apply below_drew1 | refine below_set ?_ GE106.out | refine below_set ?_ GE107.out) | exact HB.out)) hb); clear BK106; clear BK107; clear HB; have BK106 := n0_; have BK107 := n1_; have HB := n2_; clear n0_ n1_ n2_; (try clear hb); (try clear hb2); (try clear hk); (try clear hi)) | ((with_reducible refine gate_callee (f := 74) rfl ?_); refine goesL_ (some 6) rfl rfl Try.func74 (by kernel_rfl) rfl #[] rfl (by (try simp only [List.map_toArray, List.map_cons, List.map_nil]); first | done | rfl | (simp only [List.length_drop, List.length_take]; rfl)) ?_; (with_reducible refine (val_bad.calls  t109 t110 _ A11.out).mono ?_); rintro e w17 ⟨rfl, hb⟩; refine ⟨_, rfl, ?_⟩; have n0_ := Aside0.mk (blk_below (g := gb106) (o := .cells #[.int .i64 a0_0, .int .i64 a0_1] 25 (0, 0)) (by (with_reducible repeat (first | refine blk_drewN ?_ _ | refine blk_drew ?_ | refine blk_alloc ?_ _)); exact BK106.out) hb); have n1_ := Aside0.mk (blk_below (g := gb107) (o := .cells #[.int .i64 0, .int .i64 0] 25 (0, 0)) (by (with_reducible repeat (first | refine blk_drewN ?_ _ | refine blk_drew ?_ | refine blk_alloc ?_ _)); exact BK107.out) hb); have n2_ := Aside0.mk (below_step (by repeat (first | (with_reducible first | exact HB.out | apply below_alloc | apply pw_below_drewN | apply below_drew1 | refine below_set ?_ GE106.out | refine below_set ?_ GE107.out) | exact HB.out)) hb); clear BK106; clear BK107; clear HB; have BK106 := n0_; have BK107 := n1_; have HB := n2_; clear n0_ n1_ n2_; (try clear hb); (try clear hb2); (try clear hk); (try clear hi); have hcz18_0 : w17.cell? ⟨gb107, 0, none⟩ = some (.int .i64 0) := (blk_cell BK107.out 0).trans rfl; have hcz18_1 : w17.cell? ⟨gb107, 1, none⟩ = some (.int .i64 0) := (blk_cell BK107.out 1).trans rfl; have hfz18_0 := blk_frozen BK107.out 0; have hfz18_1 := blk_frozen BK107.out 1))
    refine bodyPost_ret (results_cell_row rfl _ _ gb107 25 #[.int .i64 t109, .int .i64 t110] (0, 0) _ rfl (by (with_reducible repeat (first | refine blk_drewN ?_ _ | refine blk_drew ?_ | refine blk_alloc ?_ _)); refine blk_put (cs := #[.int .i64 t109, .int .i64 0]) ?_ 1 _ rfl; (with_reducible repeat (first | refine blk_drewN ?_ _ | refine blk_drew ?_ | refine blk_alloc ?_ _)); refine blk_put (cs := #[.int .i64 0, .int .i64 0]) ?_ 0 _ rfl; (with_reducible repeat (first | refine blk_drewN ?_ _ | refine blk_drew ?_ | refine blk_alloc ?_ _)); exact BK107.out) Try.underlying25 rfl (by kernel_rfl)) rfl ?_
    exact ⟨by first | rfl | (simp [errW_none, errW_some] <;> rfl) | (simp [*, errW_none, errW_some] <;> rfl) | (clear HB; simp only [aside0_iff] at *; simp_all; done), by repeat (first | (with_reducible first | exact HB.out | apply below_alloc | apply pw_below_drewN | apply below_drew1 | refine below_set ?_ GE106.out | refine below_set ?_ GE107.out) | exact HB.out)⟩

/-! ### val_odd: function 66 -/
/-- what is asked of a predicate of values -/
def vPred (g : Nat) (lb : Array Value) (p : Int → Int → Bool) (w : World) : Prop := ∀ (W : World) (x y : Int), Below w.heap.size w W → Calls Try.prog g (#[.agg #[.int .i64 x, .int .i64 y]] ++ lb) W fun e w' => e = .returned (.bool (p x y)) ∧ Below W.heap.size W w'
theorem vPred.next {g : Nat} {lb : Array Value} {p : Int → Int → Bool} {w w1 : World} (h : vPred g lb p w) (hb : Below w.heap.size w w1) : vPred g lb p w1 := fun W x y hW => h W x y (hb.trans (hW.mono hb.size))
def vFound (p : Int → Int → Bool) (l : List S25) (w : World) (e : Ending) (w' : World) : Prop := ∃ i : Int, e = .returned (.int .i64 i) ∧ decide (0 ≤ i) = l.any (fun s => p s.f0 s.f1) ∧ Below w.heap.size w w'
theorem any_hit {α : Type} (p : α → Bool) (l : List α) (d : α) (k : Nat) (h : k < l.length) (hp : p (l.getD k d) = true) : l.any p = true := by
  rw [List.any_eq_true]
  refine ⟨l[k], List.getElem_mem h, ?_⟩
  rw [List.getD_eq_getElem?_getD, List.getElem?_eq_getElem h] at hp
  exact hp
theorem any_miss {α : Type} (p : α → Bool) (l : List α) (d : α) (hp : ∀ j, j < l.length → p (l.getD j d) = false) : l.any p = false := by
  rw [List.any_eq_false]
  intro x hx
  obtain ⟨j, hj, rfl⟩ := List.mem_iff_getElem.1 hx
  have := hp j hj
  rw [List.getD_eq_getElem?_getD, List.getElem?_eq_getElem hj] at this
  simpa using this

set_option maxHeartbeats 800000 in
set_option maxRecDepth 100000 in
theorem vIndex.calls (p : Int → Int → Bool) (g : Nat) (lb : Array Value) (eg : ∀ args w, (callFunc g args).run Try.prog w = .ok (.enter g args) w) (A0 : Option Addr) (c0 : Nat) (l0 : List S25) (w : World) (hp : vPred g lb p w) (hr0 : Kd.C k25 w A0 l0.length l0) (hc0 : l0.length ≤ c0) :
    Calls Try.prog 98 #[.slice A0 l0.length c0, .func (.func g) #[] lb] w (vFound p l0 w) := by
  have hmax := hr0.2.1
  have HR0 := Aside0.mk hr0
  clear hr0 hc0
  have HP := Aside0.mk hp
  clear hp
  go_enter Try.func98, Try.ntmps98
  go_wp2
  go_loopg [5, 8] l0.length (fun gg _ s8 wr => ∃ kk : Nat, kk ≤ l0.length ∧ l0.length - kk ≤ gg ∧ s8 = .int .i64 kk ∧ Aside0 (Below w.heap.size w wr) ∧ Aside0 (∀ j, j < kk → p (l0.getD j z25).f0 (l0.getD j z25).f1 = false))
  case atStart => exact ⟨0, Nat.zero_le _, by omega, rfl, ⟨Below.refl _ w⟩, ⟨fun j hj => absurd hj (Nat.not_lt_zero _)⟩⟩
  case round =>
    obtain ⟨kk, hkk, hg, rfl, BW, A⟩ := hrel
    by_cases hlt : kk < l0.length
    · have hltz : (kk : Int) < (l0.length : Int) := by omega
      have hk0 : (0 : Int) ≤ (kk : Int) := by omega
      obtain ⟨ad, e_, hx0, hx1⟩ := at_T25 HR0.out (kk : Int) hk0 hltz
      cases e_
      rw [Int.toNat_natCast] at hx0 hx1
      replace hx0 := (BW.out.cell (World.block_lt_of_cell? w _ hx0)).trans hx0
      replace hx1 := (BW.out.cell (World.block_lt_of_cell? w _ hx1)).trans hx1
      have hcall := HP.out wr (rd_T25 l0 kk).f0 (rd_T25 l0 kk).f1 BW.out
      cases hq : p (rd_T25 l0 kk).f0 (rd_T25 l0 kk).f1 with
      | true =>
        rw [hq] at hcall
        go_wp2_with (go_at_fn g; refine hcall.mono ?_; rintro e w' ⟨rfl, hb'⟩)
        go_ret
        refine ⟨_, rfl, ?_, BW.out.trans (hb'.mono BW.out.size)⟩
        rw [any_hit _ l0 z25 kk hlt hq]
        simp
      | false =>
        rw [hq] at hcall
        go_wp2_with (go_at_fn g; refine hcall.mono ?_; rintro e w' ⟨rfl, hb'⟩)
        go_roundg (l0.length - (kk + 1))
        case measure => omega
        case rel =>
          refine ⟨kk + 1, by omega, by omega, by go_num, ⟨BW.out.trans (hb'.mono BW.out.size)⟩, ⟨fun j hj => ?_⟩⟩
          by_cases e : j = kk
          · subst e
            exact hq
          · exact A.out j (by omega)
    · have hltz : ¬ (kk : Int) < (l0.length : Int) := by omega
      have : kk = l0.length := by omega
      go_wp2
      go_ret
      refine ⟨_, rfl, ?_, BW.out⟩
      rw [any_miss _ l0 z25 (this ▸ A.out)]
      simp
set_option maxHeartbeats 400000 in
theorem vContains.calls (p : Int → Int → Bool) (g : Nat) (lb : Array Value) (eg : ∀ args w, (callFunc g args).run Try.prog w = .ok (.enter g args) w) (A0 : Option Addr) (c0 : Nat) (l0 : List S25) (w : World) (hp : vPred g lb p w) (hr0 : Kd.C k25 w A0 l0.length l0) (hc0 : l0.length ≤ c0) :
    Calls Try.prog 95 #[.slice A0 l0.length c0, .func (.func g) #[] lb] w fun e w' => e = .returned (.bool (l0.any fun s => p s.f0 s.f1)) ∧ Below w.heap.size w w' := by
  have hcon := Aside0.mk (vIndex.calls p g lb eg A0 c0 l0 w hp hr0 hc0)
  clear hr0 hc0 hp
  go_enter Try.func95, Try.ntmps95
  go_wp2_with (go_at_call 98; refine hcon.out.mono ?_; rintro e w' ⟨i, rfl, hi, hb⟩; have HI := Aside0.mk hi; have HB := Aside0.mk hb; clear hi hb)
  go_ret
  exact ⟨by rw [← HI.out]; rfl, HB.out⟩

set_option maxHeartbeats 400000 in
theorem val_some.calls (p : Int → Int → Bool) (g : Nat) (lb : Array Value) (eg : ∀ args w, (callFunc g args).run Try.prog w = .ok (.enter g args) w) (A0 : Option Addr) (c0 : Nat) (l0 : List S25) (w : World) (hp : vPred g lb p w) (hr0 : Kd.C k25 w A0 l0.length l0) (hc0 : l0.length ≤ c0) :
    Calls Try.prog 72 #[.slice A0 l0.length c0, .func (.func g) #[] lb] w fun e w' => e = .returned (.bool (l0.any fun s => p s.f0 s.f1)) ∧ Below w.heap.size w w' := by
  have hcon := Aside0.mk (vContains.calls p g lb eg A0 c0 l0 w hp hr0 hc0)
  clear hr0 hc0 hp
  generalize (l0.any fun s => p s.f0 s.f1) = r at hcon ⊢
  go_enter Try.func72, Try.ntmps72
  go_wp2_with (go_at_call 95; refine hcon.out.mono ?_; rintro e w' ⟨rfl, hb⟩)
  go_ret
  exact ⟨rfl, hb⟩
set_option maxHeartbeats 400000 in
theorem val_kind.calls (k : Int) (w : World) :
    Calls Try.prog 73 #[.int .i64 k] w fun e w' => e = .returned (.func (.func 96) #[] #[.pointer (some ⟨w.heap.size, 0, none⟩)]) ∧ w' = w.alloc (.cells #[.int .i64 k] 3) := by
  go_enter Try.func73, Try.ntmps73
  go_wp2
  go_ret
  exact ⟨rfl, rfl⟩
theorem val_fine.tot (a b : Int) : ∃ x y, val_fine.f a b = some (x, y) := by
  unfold val_fine.f val_May.f val_bad.f
  simp
  repeat' split
  all_goals simp
  all_goals (split <;> simp)

theorem fld25_0 (x y : Value) (w : World) : Sem.run Try.prog (Instr.field 25 (.agg #[x, y]) 0) w = .ok x w := by rfl
set_option maxHeartbeats 400000 in
theorem val_kind1.calls (kk a0 a1 r1 r2 : Int) (B : Nat) (w : World) (hB : B < w.heap.size) (hc : w.cell? ⟨B, 0, none⟩ = some (.int .i64 kk)) (h : val_fine.f a0 a1 = some (r1, r2)) :
    Calls Try.prog 96 #[.agg #[.int .i64 a0, .int .i64 a1], .pointer (some ⟨B, 0, none⟩)] w fun e w' => e = .returned (.bool (r1 == kk)) ∧ Below w.heap.size w w' := by
  have hne : B ≠ w.heap.size := by omega
  have HH := Aside0.mk h
  clear h
  have hf := fun (x y : Value) (W : World) => fld25_0 x y W
  go_enter Try.func96, Try.ntmps96
  go_wp2_with fail
  go_region_with (first | (go_at_call 82; refine (val_fine.calls _ _ _ _ _ HH.out).mono ?_; rintro e w1 ⟨rfl, hb⟩; have HB := Aside0.mk hb; have hc1 : w1.cell? ⟨B, 0, none⟩ = some (.int .i64 kk) := (hb.cell (p := ⟨B, 0, none⟩) (by simp; omega)).trans ((below_alloc (Below.refl w.heap.size w) _).cell (p := ⟨B, 0, none⟩) hB |>.trans hc); clear hb))
  all_goals (go_wp2; go_ret; exact ⟨by first | rfl | (simp; done) | (simp; rfl), (below_drew ((Below.refl w.heap.size w).alloc (Nat.le_refl _) _)).trans (HB.out.mono (by simp))⟩)
theorem val_fine.eq (a b : Int) : val_fine.f a b = some (if 0 ≤ a ∧ a < 3 ∧ (a = 0 ∨ b = 0) then (a, b) else (2, 0)) := by
  unfold val_fine.f val_May.f val_bad.f
  by_cases h1 : 0 ≤ a <;> by_cases h2 : a < 3 <;> by_cases h3 : a = 0 <;> by_cases h4 : b = 0 <;> simp [h1, h2, h3, h4]
/-- the kind that a value counts as -/
def vk (a b : Int) : Int := if 0 ≤ a ∧ a < 3 ∧ (a = 0 ∨ b = 0) then a else 2
theorem val_fine.vk (a b : Int) : val_fine.f a b = some (vk a b, if 0 ≤ a ∧ a < 3 ∧ (a = 0 ∨ b = 0) then b else 0) := by
  rw [val_fine.eq]; unfold F.vk; split <;> rfl
theorem val_kind1.pred (kk : Int) (B : Nat) (w : World) (hB : B < w.heap.size) (hc : w.cell? ⟨B, 0, none⟩ = some (.int .i64 kk)) :
    vPred 96 #[.pointer (some ⟨B, 0, none⟩)] (fun a b => vk a b == kk) w := fun W x y hW =>
  val_kind1.calls kk x y _ _ B W (Nat.lt_of_lt_of_le hB hW.size) ((hW.cell (p := ⟨B, 0, none⟩) hB).trans hc) (val_fine.vk x y)
theorem eg96 : ∀ args w, (callFunc 96 args).run Try.prog w = .ok (.enter 96 args) w := enters_of Try.func96 (by kernel_rfl) rfl
/-- what some values come to that are not all numbers, and whether they are not -/
def oddV (l : List S25) : Int × Int × Bool := if l.any (fun s => vk s.f0 s.f1 == 2) then (2, 0, true) else if l.any (fun s => vk s.f0 s.f1 == 1) then (1, 0, true) else (0, 0, false)
def val_odd.f (l0 : List S25) : Option (Int × Int × Bool) := some (oddV l0)
set_option maxHeartbeats 800000 in
set_option maxRecDepth 100000 in
theorem val_odd.calls (A0 : Option Addr) (c0 : Nat) (l0 : List S25) (r1 r2 : Int) (r3 : Bool) (w : World) (hr0 : Kd.C k25 w A0 l0.length l0) (hc0 : l0.length ≤ c0) (h : val_odd.f l0 = some (r1, r2, r3)) :
    Calls Try.prog 66 #[.slice A0 l0.length c0] w fun e w' => e = .returned (.tuple #[.agg #[.int .i64 r1, .int .i64 r2], .bool r3]) ∧ Below w.heap.size w w' := by
  have HR0 := Aside0.mk hr0
  have HC0 := Aside0.mk hc0
  clear hr0 hc0
  have hu25 := Try.underlying25
  have H := Aside0.mk h
  clear h
  have c1 := fun (kk : Int) (W : World) (B : Nat) (hE : B = W.heap.size) (hW : Below w.heap.size w W) => val_some.calls (fun a b => vk a b == kk) 96 #[.pointer (some ⟨B, 0, none⟩)] eg96 A0 c0 l0 (W.alloc (.cells #[.int .i64 kk] 3)) (val_kind1.pred kk B _ (by simp [hE]) (by simp [hE])) (Kd.C_below HR0.out (hW.alloc hW.size _)) HC0.out
  have C1 := Aside0.mk c1
  clear c1
  go_enter Try.func66, Try.ntmps66
  go_wp2_with fail
  refine (val_kind.calls _ _).mono ?_
  rintro e w1 ⟨rfl, rfl⟩
  go_wp2_with fail
  refine (C1.out 2 _ _ (by simp) ((Below.refl w.heap.size w).alloc (Nat.le_refl _) _)).mono ?_
  rintro e w2 ⟨rfl, hb2⟩
  have HB2 := Aside0.mk (((below_alloc (below_alloc (Below.refl w.heap.size w) _) _)).trans (hb2.mono (by simp; omega)))
  have BK : w2.heap[w.heap.size]? = some (.cells #[.int .i64 0, .int .i64 0] 25 (0, 0)) := (hb2.block _ (by simp; omega)).trans ((Below.heap_alloc _ _ _ (by simp)).trans (heap_alloc_new _ _))
  have GE := Nat.le_refl w.heap.size
  clear hb2
  have HBK := Aside0.mk BK
  clear BK
  cases h2 : l0.any (fun s => vk s.f0 s.f1 == 2) with
  | true =>
    have h3 : oddV l0 = (2, 0, true) := by unfold oddV; rw [if_pos h2]
    clear h2
    have h4 := H.out
    unfold val_odd.f at h4
    rw [h3] at h4
    clear h3 H
    simp only [Option.some.injEq, Prod.mk.injEq] at h4
    obtain ⟨rfl, rfl, rfl⟩ := h4
    go_wp2_with fail
    refine (val_bad.calls 2 0 _ rfl).mono ?_
    rintro e w3 ⟨rfl, hb3⟩
    have BK3 := Aside0.mk (blk_below HBK.out hb3)
    have HB3 := Aside0.mk (HB2.out.trans (hb3.mono HB2.out.size))
    clear hb3 HBK HB2
    have hc0 : _ = some (Value.int .i64 0) := (blk_cell BK3.out 0).trans rfl
    have hc1 : _ = some (Value.int .i64 0) := (blk_cell BK3.out 1).trans rfl
    have hz0 := blk_frozen BK3.out 0
    have hz1 := blk_frozen BK3.out 1
    go_wp2_with fail
    refine bodyPost_ret (results_ct rfl _ _ w.heap.size 25 #[.int .i64 2, .int .i64 0] (0, 0) _ rfl (by refine blk_put (cs := #[.int .i64 2, .int .i64 0]) ?_ 1 _ rfl; refine blk_put (cs := #[.int .i64 0, .int .i64 0]) ?_ 0 _ rfl; exact BK3.out) Try.underlying25 rfl (by kernel_rfl)) rfl ?_
    exact ⟨rfl, below_set (below_set HB3.out GE) GE⟩
  | false =>
    have h5 : oddV l0 = if l0.any (fun s => vk s.f0 s.f1 == 1) then (1, 0, true) else (0, 0, false) := by unfold oddV; rw [if_neg (by simp [h2])]
    have h4 := H.out
    unfold val_odd.f at h4
    rw [h5] at h4
    have H4 := Aside0.mk h4
    clear h2 h4 h5 H
    go_wp2_with fail
    refine (val_kind.calls _ _).mono ?_
    rintro e w3 ⟨rfl, rfl⟩
    go_wp2_with fail
    refine (C1.out 1 _ _ (by first | rfl | simp) HB2.out).mono ?_
    rintro e w3 ⟨rfl, hb3⟩
    have BK3 := Aside0.mk (blk_below (blk_alloc HBK.out _) hb3)
    have HB3 := Aside0.mk ((below_alloc HB2.out _).trans (hb3.mono (by have := HB2.out.size; simp; omega)))
    clear hb3 HBK HB2
    cases h2 : l0.any (fun s => vk s.f0 s.f1 == 1) with
    | true =>
      have h4 := H4.out
      rw [h2] at h4
      simp only [if_true, Option.some.injEq, Prod.mk.injEq] at h4
      obtain ⟨rfl, rfl, rfl⟩ := h4
      clear H4 h2
      go_wp2_with fail
      refine (val_null.calls 1 0 _ rfl).mono ?_
      rintro e w4 ⟨rfl, hb4⟩
      have BK4 := Aside0.mk (blk_below BK3.out hb4)
      have HB4 := Aside0.mk (HB3.out.trans (hb4.mono HB3.out.size))
      clear hb4 BK3 HB3
      have hc0 : _ = some (Value.int .i64 0) := (blk_cell BK4.out 0).trans rfl
      have hc1 : _ = some (Value.int .i64 0) := (blk_cell BK4.out 1).trans rfl
      have hz0 := blk_frozen BK4.out 0
      have hz1 := blk_frozen BK4.out 1
      go_wp2_with fail
      refine bodyPost_ret (results_ct rfl _ _ w.heap.size 25 #[.int .i64 1, .int .i64 0] (0, 0) _ rfl (by refine blk_put (cs := #[.int .i64 1, .int .i64 0]) ?_ 1 _ rfl; refine blk_put (cs := #[.int .i64 0, .int .i64 0]) ?_ 0 _ rfl; exact BK4.out) Try.underlying25 rfl (by kernel_rfl)) rfl ?_
      exact ⟨rfl, below_set (below_set HB4.out GE) GE⟩
    | false =>
      have h4 := H4.out
      rw [h2] at h4
      simp only [Bool.false_eq_true, if_false, Option.some.injEq, Prod.mk.injEq] at h4
      obtain ⟨rfl, rfl, rfl⟩ := h4
      clear H4 h2
      have hc0 : _ = some (Value.int .i64 0) := (blk_cell BK3.out 0).trans rfl
      have hc1 : _ = some (Value.int .i64 0) := (blk_cell BK3.out 1).trans rfl
      have hz0 := blk_frozen BK3.out 0
      have hz1 := blk_frozen BK3.out 1
      go_wp2_with fail
      refine bodyPost_ret (results_ct rfl _ _ w.heap.size 25 #[.int .i64 0, .int .i64 0] (0, 0) _ rfl (by refine blk_put (cs := #[.int .i64 0, .int .i64 0]) ?_ 1 _ rfl; refine blk_put (cs := #[.int .i64 0, .int .i64 0]) ?_ 0 _ rfl; exact BK3.out) Try.underlying25 rfl (by kernel_rfl)) rfl ?_
      exact ⟨rfl, below_set (below_set HB3.out GE) GE⟩


/-! ### val_isFalse: function 69 -/
def val_isFalse.f (a0_0 : Int) (a0_1 : Int) : Option (Bool) := (val_Of.f 0).bind fun bt112 => (some (a0_0 == bt112.1 && (a0_1 == bt112.2)))
set_option maxHeartbeats 8000000 in
set_option maxRecDepth 100000 in
theorem val_isFalse.calls (a0_0 : Int) (a0_1 : Int) (r : Bool) (w : World) (h : val_isFalse.f a0_0 a0_1 = some r) :
    Calls Try.prog 69 #[.agg #[.int .i64 a0_0, .int .i64 a0_1]] w fun e w' => e = .returned (.bool r) ∧ Below w.heap.size w w' := by
  have hu25 := Try.underlying25
  have HB := Aside0.mk (Below.refl w.heap.size w)
  have H : ((val_Of.f 0).bind fun bt112 => (some (a0_0 == bt112.1 && (a0_1 == bt112.2)))) = some r := h
  clear h
  replace H := Option.bind_eq_some_iff.mp H
  obtain ⟨⟨t112, t113⟩, A20, H⟩ := H
  replace H : (some (a0_0 == t112 && (a0_1 == t113))) = some r := H
  have A2 := Aside0.mk A20
  clear A20
  obtain rfl := Option.some.inj H
  go_enter Try.func69, Try.ntmps69
  try go_wp2_with (first | ((with_reducible refine gate_dst (N := 1) rfl ?_); refine box_event ?hg (N := 1) ?hd (cs := #[.int .i64 a0_0, .int .i64 a0_1]) (t := 25) ?hr ?_; (case hd => rfl); (case hg => rfl); (case hr => first | (go_simp; done) | (go_simp; rfl)); intro gb111 hg w3 hbox hb; have n0_ := Aside0.mk (below_step (by repeat (first | (with_reducible first | exact HB.out | apply below_alloc | apply pw_below_drewN | apply below_drew1) | exact HB.out)) hb); have n1_ := Aside0.mk (hbox); have n2_ := Aside0.mk ((by rw [hg]; exact (below_size (by repeat (first | (with_reducible first | exact HB.out | apply below_alloc | apply pw_below_drewN | apply below_drew1) | exact HB.out))) : w.heap.size ≤ gb111)); have n3_ := Aside0.mk ((by rw [hg]; exact (below_size (by repeat (first | (with_reducible first | exact HB.out | apply below_alloc | apply pw_below_drewN | apply below_drew1) | exact HB.out))) : w.heap.size ≤ gb111)); clear HB; have HB := n0_; have BK111 := n1_; have GW111 := n2_; have GE111 := n3_; clear n0_ n1_ n2_ n3_; clear hb hbox hg))
  have n0_ := Aside0.mk (blk_drew BK111.out)
  have n1_ := Aside0.mk (below_drew1 HB.out)
  clear BK111
  clear HB
  have BK111 := n0_
  have HB := n1_
  clear n0_ n1_
  refine start_ (n := 4) (S := fun w' => w'.cell? ⟨gb111, 0, none⟩ = some (.int .i64 a0_0) ∧ w'.cell? ⟨gb111, 1, none⟩ = some (.int .i64 a0_1)) (ds := []) #[false, false, false, false] (by kernel_rfl) rfl rfl ⟨(blk_cell BK111.out 0).trans rfl, (blk_cell BK111.out 1).trans rfl⟩ (fun hHeld => ?_)
  generalize w3.drew = w4 at BK111 HB hHeld ⊢
  refine take_ (i := 0) (N := some 3) (v := ?_) (a' := ?_) #[true, false, false, false] rfl rfl (by kernel_rfl) (fun _ _ _ h => h) (Or.inl ⟨by rfl, ?_⟩) hHeld ?_ ?_
  rotate_left
  · rintro w' ⟨s0, s1⟩
    go_simp
    with_reducible rfl
  rotate_left
  · simp only [Act.put, List.setIfInBounds_toArray, List.set_cons_zero, List.set_cons_succ, i64_w, i32_w]
    rfl
  refine one_ (i := 1) (N := some 4) #[true, true, false, false] rfl rfl (by kernel_rfl) (by decide) (fun K hK => ?_)
  refine goes_ Try.func21 (by kernel_rfl) rfl #[.int .i64 0] (by rfl) rfl rfl (by (try simp only [List.map_toArray, List.map_cons, List.map_nil]); first | done | rfl | (simp only [List.length_drop, List.length_take]; rfl)) ?_
  with_reducible refine (val_Of.calls 0 t112 t113 _ A2.out).mono ?_
  rintro e w5 ⟨rfl, hb⟩
  refine ⟨_, rfl, ?_⟩
  have n0_ := Aside0.mk (blk_below (g := gb111) (o := .cells #[.int .i64 a0_0, .int .i64 a0_1] 25 (0, 0)) (by (with_reducible repeat (first | refine blk_drewN ?_ _ | refine blk_drew ?_ | refine blk_alloc ?_ _)); exact BK111.out) hb)
  have n1_ := Aside0.mk (below_step (by repeat (first | (with_reducible first | exact HB.out | apply below_alloc | apply pw_below_drewN | apply below_drew1 | refine below_set ?_ GE111.out) | exact HB.out)) hb)
  clear BK111
  clear HB
  have BK111 := n0_
  have HB := n1_
  clear n0_ n1_
  (try clear hb)
  (try clear hb2)
  (try clear hk)
  (try clear hi)
  refine hK.out _ _ ⟨(blk_cell BK111.out 0).trans rfl, (blk_cell BK111.out 1).trans rfl⟩ (fun hHeld => ?_)
  clear hK K
  refine norm_ (a' := ?_) ?_ ?_
  rotate_left
  · show Act.put _ (some 4) _ = _
    simp only [Act.put, List.setIfInBounds_toArray, List.set_cons_zero, List.set_cons_succ, i64_w, i32_w]
    rfl
  refine pure_ (i := 2) (N := some 5) (v := ?_) (a' := ?_) #[true, true, true, false] rfl rfl (by kernel_rfl) (fun _ _ _ h => h) (Or.inl ⟨by rfl, ?_⟩) ?_ ?_
  rotate_left
  · intro w'
    go_simp
    with_reducible rfl
  rotate_left
  · simp only [Act.put, List.setIfInBounds_toArray, List.set_cons_zero, List.set_cons_succ, i64_w, i32_w]
    rfl
  refine pure_ (i := 3) (N := some 2) (v := ?_) (a' := ?_) #[true, true, true, true] rfl rfl (by kernel_rfl) (fun _ _ _ h => h) (Or.inl ⟨by rfl, ?_⟩) ?_ ?_
  rotate_left
  · intro w'
    go_simp
    with_reducible rfl
  rotate_left
  · simp only [Act.put, List.setIfInBounds_toArray, List.set_cons_zero, List.set_cons_succ, i64_w, i32_w]
    rfl
  refine done_ (by kernel_rfl) ?_
  try go_wp2
  go_ret
  exact ⟨by first | rfl | (simp [errW_none, errW_some] <;> rfl) | (simp [*, errW_none, errW_some] <;> rfl) | (clear HB; simp only [aside0_iff] at *; simp_all; done), by repeat (first | (with_reducible first | exact HB.out | apply below_alloc | apply pw_below_drewN | apply below_drew1 | refine below_set ?_ GE111.out) | exact HB.out)⟩

/-! ### val_And: function 19 -/
theorem below_alloc' {B : Nat} {w W : World} (h : Below B w W) (o : Obj) (hB : B ≤ w.heap.size := by omega) : Below B w (W.alloc o) := h.alloc (Nat.le_trans hB h.size) o
def threeV (p : Int → Int → Bool) (l : List S25) (t a : Int × Int) : Int × Int := if l.any (fun s => p s.f0 s.f1) then t else if (oddV l).2.2 then ((oddV l).1, (oddV l).2.1) else a
set_option maxHeartbeats 800000 in
set_option maxRecDepth 100000 in
theorem val_three.calls (p : Int → Int → Bool) (g : Nat) (lb : Array Value) (eg : ∀ args w, (callFunc g args).run Try.prog w = .ok (.enter g args) w) (A0 : Option Addr) (c0 : Nat) (l0 : List S25) (t0 t1 a0 a1 r1 r2 : Int) (w : World) (hp : vPred g lb p w) (hr0 : Kd.C k25 w A0 l0.length l0) (hc0 : l0.length ≤ c0) (h : threeV p l0 (t0, t1) (a0, a1) = (r1, r2)) :
    Calls Try.prog 68 #[.slice A0 l0.length c0, .func (.func g) #[] lb, .agg #[.int .i64 t0, .int .i64 t1], .agg #[.int .i64 a0, .int .i64 a1]] w fun e w' => e = .returned (.agg #[.int .i64 r1, .int .i64 r2]) ∧ Below w.heap.size w w' := by
  have HR0 := Aside0.mk hr0
  have HC0 := Aside0.mk hc0
  have HP := Aside0.mk hp
  clear hr0 hc0 hp
  have hu25 := Try.underlying25
  have H := Aside0.mk h
  clear h
  go_enter Try.func68, Try.ntmps68
  go_wp2_with fail
  refine (val_some.calls p g lb eg A0 c0 l0 _ (HP.out.next (by repeat (first | apply below_alloc | exact Below.refl _ _))) (Kd.C_below HR0.out (by repeat (first | apply below_alloc | exact Below.refl _ _))) HC0.out).mono ?_
  rintro e w1 ⟨rfl, hb⟩
  have HB1 := Aside0.mk ((show Below w.heap.size w _ by repeat (first | apply below_alloc | exact Below.refl _ _)).trans (hb.mono (by simp; omega)))
  have B1 := Aside0.mk (blk_below (blk_alloc (blk_alloc (blk_new w (.cells #[.int .i64 t0, .int .i64 t1] 25 (0, 0))) _) _) hb)
  have B2 := Aside0.mk (blk_below (blk_alloc (blk_new (w.alloc (.cells #[.int .i64 t0, .int .i64 t1] 25 (0, 0))) (.cells #[.int .i64 a0, .int .i64 a1] 25 (0, 0))) _) hb)
  have B3 := Aside0.mk (blk_below (blk_new ((w.alloc (.cells #[.int .i64 t0, .int .i64 t1] 25 (0, 0))).alloc (.cells #[.int .i64 a0, .int .i64 a1] 25 (0, 0))) (.cells #[.int .i64 0, .int .i64 0] 25 (0, 0))) hb)
  simp only [World.size_alloc] at B2 B3
  clear hb
  have GE3 : w.heap.size ≤ w.heap.size + 1 + 1 := by omega
  cases h2 : l0.any (fun s => p s.f0 s.f1) with
  | true =>
    have h3 := H.out
    unfold threeV at h3
    rw [h2, if_pos rfl] at h3
    obtain ⟨rfl, rfl⟩ := Prod.mk.inj h3
    clear h2 h3 H
    have hc0 : _ = some (Value.int .i64 t0) := (blk_cell B1.out 0).trans rfl
    have hc1 : _ = some (Value.int .i64 t1) := (blk_cell B1.out 1).trans rfl
    have hd0 : _ = some (Value.int .i64 0) := (blk_cell B3.out 0).trans rfl
    have hd1 : _ = some (Value.int .i64 0) := (blk_cell B3.out 1).trans rfl
    have hz0 := blk_frozen B3.out 0
    have hz1 := blk_frozen B3.out 1
    go_wp2_with fail
    refine bodyPost_ret (results_cell_row rfl _ _ (w.heap.size + 1 + 1) 25 #[.int .i64 t0, .int .i64 t1] (0, 0) _ rfl (by refine blk_put (cs := #[.int .i64 t0, .int .i64 0]) ?_ 1 _ rfl; refine blk_put (cs := #[.int .i64 0, .int .i64 0]) ?_ 0 _ rfl; exact B3.out) Try.underlying25 rfl (by kernel_rfl)) rfl ?_
    exact ⟨rfl, below_set (below_set HB1.out GE3) GE3⟩
  | false =>
    have h3 := H.out
    unfold threeV at h3
    rw [h2, if_neg (by decide)] at h3
    have H3 := Aside0.mk h3
    clear h2 h3 H
    go_wp2_with fail
    obtain ⟨o1, o2, o3, ho⟩ : ∃ o1 o2 o3, oddV l0 = (o1, o2, o3) := ⟨_, _, _, rfl⟩
    refine (val_odd.calls A0 c0 l0 o1 o2 o3 _ (Kd.C_below HR0.out HB1.out) HC0.out (by unfold val_odd.f; rw [ho])).mono ?_
    rintro e w2 ⟨rfl, hb⟩
    have H4 := Aside0.mk (show (if o3 = true then (o1, o2) else (a0, a1)) = (r1, r2) by have := H3.out; rw [ho] at this; exact this)
    have C2 := Aside0.mk (blk_below B2.out hb)
    have C3 := Aside0.mk (blk_below B3.out hb)
    have HB2 := Aside0.mk (HB1.out.trans (hb.mono HB1.out.size))
    have LT := blk_lt C3.out
    have GE4 : w.heap.size ≤ w2.heap.size := by omega
    clear ho H3 HB1 B1 B2 B3 hb
    cases o3 with
    | true =>
      obtain ⟨rfl, rfl⟩ := Prod.mk.inj H4.out
      clear H4
      have hne : w.heap.size + 1 + 1 ≠ w2.heap.size := by omega
      have hc0 : _ = some (Value.int .i64 0) := (blk_cell C3.out 0).trans rfl
      have hc1 : _ = some (Value.int .i64 0) := (blk_cell C3.out 1).trans rfl
      have hz0 := blk_frozen C3.out 0
      have hz1 := blk_frozen C3.out 1
      go_wp2_with fail
      refine bodyPost_ret (results_cell_row rfl _ _ (w.heap.size + 1 + 1) 25 #[.int .i64 o1, .int .i64 o2] (0, 0) _ rfl (by refine blk_alloc ?_ _; refine blk_put (cs := #[.int .i64 o1, .int .i64 0]) ?_ 1 _ rfl; refine blk_put (cs := #[.int .i64 0, .int .i64 0]) ?_ 0 _ rfl; exact C3.out) Try.underlying25 rfl (by kernel_rfl)) rfl ?_
      exact ⟨rfl, below_alloc' (below_set (below_set HB2.out GE3) GE3) _⟩
    | false =>
      obtain ⟨rfl, rfl⟩ := Prod.mk.inj H4.out
      clear H4
      have hne : w.heap.size + 1 + 1 ≠ w2.heap.size := by omega
      have hne2 : w.heap.size + 1 ≠ w2.heap.size := by omega
      have hb0 : ∀ o, (w2.alloc o).cell? ⟨w.heap.size + 1, 0, none⟩ = some (Value.int .i64 a0) := fun o => (blk_cell (blk_alloc C2.out o) 0).trans rfl
      have hb1 : ∀ o, (w2.alloc o).cell? ⟨w.heap.size + 1, 1, none⟩ = some (Value.int .i64 a1) := fun o => (blk_cell (blk_alloc C2.out o) 1).trans rfl
      have hc0 : _ = some (Value.int .i64 0) := (blk_cell C3.out 0).trans rfl
      have hc1 : _ = some (Value.int .i64 0) := (blk_cell C3.out 1).trans rfl
      have hz0 := blk_frozen C3.out 0
      have hz1 := blk_frozen C3.out 1
      go_wp2_with fail
      refine bodyPost_ret (results_cell_row rfl _ _ (w.heap.size + 1 + 1) 25 #[.int .i64 a0, .int .i64 a1] (0, 0) _ rfl (by refine blk_alloc ?_ _; refine blk_put (cs := #[.int .i64 a0, .int .i64 0]) ?_ 1 _ rfl; refine blk_put (cs := #[.int .i64 0, .int .i64 0]) ?_ 0 _ rfl; exact C3.out) Try.underlying25 rfl (by kernel_rfl)) rfl ?_
      exact ⟨rfl, below_alloc' (below_set (below_set HB2.out GE3) GE3) _⟩

theorem val_isFalse.pred (w : World) : vPred 69 #[] (fun a b => a == 0 && b == 0) w := fun W x y _ => val_isFalse.calls x y _ W rfl
theorem val_True.pred (w : World) : vPred 54 #[] (fun a b => a == 0 && b != 0) w := fun W x y _ => val_True.calls x y _ W (by unfold val_True.f; split <;> simp_all)
theorem eg69 : ∀ args w, (callFunc 69 args).run Try.prog w = .ok (.enter 69 args) w := enters_of Try.func69 (by kernel_rfl) rfl
theorem eg54 : ∀ args w, (callFunc 54 args).run Try.prog w = .ok (.enter 54 args) w := enters_of Try.func54 (by kernel_rfl) rfl
def andV (l : List S25) : Int × Int := threeV (fun a b => a == 0 && b == 0) l (0, 0) (0, 1)
def orV (l : List S25) : Int × Int := threeV (fun a b => a == 0 && b != 0) l (0, 1) (0, 0)
def val_And.f (l0 : List S25) : Option (Int × Int) := some (andV l0)
def val_Or.f (l0 : List S25) : Option (Int × Int) := some (orV l0)
set_option maxHeartbeats 800000 in
set_option maxRecDepth 100000 in
theorem val_And.calls (A0 : Option Addr) (c0 : Nat) (l0 : List S25) (r1 r2 : Int) (w : World) (hr0 : Kd.C k25 w A0 l0.length l0) (hc0 : l0.length ≤ c0) (h : val_And.f l0 = some (r1, r2)) :
    Calls Try.prog 19 #[.slice A0 l0.length c0] w fun e w' => e = .returned (.agg #[.int .i64 r1, .int .i64 r2]) ∧ Below w.heap.size w w' := by
  have HR0 := Aside0.mk hr0
  have HC0 := Aside0.mk hc0
  clear hr0 hc0
  have hu25 := Try.underlying25
  have H := Aside0.mk (Option.some.inj h)
  clear h
  have GE := Nat.le_refl w.heap.size
  go_enter Try.func19, Try.ntmps19
  go_wp2_with fail
  refine (val_Of.calls 0 0 0 _ rfl).mono ?_
  rintro e w1 ⟨rfl, hb⟩
  have HB1 := Aside0.mk ((below_alloc (Below.refl w.heap.size w) _).trans (hb.mono (by simp)))
  have B1 := Aside0.mk (blk_below (blk_new w (.cells #[.int .i64 0, .int .i64 0] 25 (0, 0))) hb)
  clear hb
  go_wp2_with fail
  refine (val_Of.calls 1 0 1 _ rfl).mono ?_
  rintro e w2 ⟨rfl, hb⟩
  have HB2 := Aside0.mk (HB1.out.trans (hb.mono HB1.out.size))
  have B2 := Aside0.mk (blk_below B1.out hb)
  clear hb HB1 B1
  go_wp2_with fail
  refine (val_three.calls _ 69 #[] eg69 A0 c0 l0 0 0 0 1 r1 r2 _ (val_isFalse.pred _) (Kd.C_below HR0.out HB2.out) HC0.out H.out).mono ?_
  rintro e w3 ⟨rfl, hb⟩
  have HB3 := Aside0.mk (HB2.out.trans (hb.mono HB2.out.size))
  have B3 := Aside0.mk (blk_below B2.out hb)
  clear hb HB2 B2
  have hc0 : _ = some (Value.int .i64 0) := (blk_cell B3.out 0).trans rfl
  have hc1 : _ = some (Value.int .i64 0) := (blk_cell B3.out 1).trans rfl
  have hz0 := blk_frozen B3.out 0
  have hz1 := blk_frozen B3.out 1
  go_wp2_with fail
  refine bodyPost_ret (results_cell_row rfl _ _ w.heap.size 25 #[.int .i64 r1, .int .i64 r2] (0, 0) _ rfl (by refine blk_put (cs := #[.int .i64 r1, .int .i64 0]) ?_ 1 _ rfl; refine blk_put (cs := #[.int .i64 0, .int .i64 0]) ?_ 0 _ rfl; exact B3.out) Try.underlying25 rfl (by kernel_rfl)) rfl ?_
  exact ⟨rfl, below_set (below_set HB3.out GE) GE⟩
set_option maxHeartbeats 800000 in
set_option maxRecDepth 100000 in
theorem val_Or.calls (A0 : Option Addr) (c0 : Nat) (l0 : List S25) (r1 r2 : Int) (w : World) (hr0 : Kd.C k25 w A0 l0.length l0) (hc0 : l0.length ≤ c0) (h : val_Or.f l0 = some (r1, r2)) :
    Calls Try.prog 20 #[.slice A0 l0.length c0] w fun e w' => e = .returned (.agg #[.int .i64 r1, .int .i64 r2]) ∧ Below w.heap.size w w' := by
  have HR0 := Aside0.mk hr0
  have HC0 := Aside0.mk hc0
  clear hr0 hc0
  have hu25 := Try.underlying25
  have H := Aside0.mk (Option.some.inj h)
  clear h
  have GE := Nat.le_refl w.heap.size
  go_enter Try.func20, Try.ntmps20
  go_wp2_with fail
  refine (val_Of.calls 1 0 1 _ rfl).mono ?_
  rintro e w1 ⟨rfl, hb⟩
  have HB1 := Aside0.mk ((below_alloc (Below.refl w.heap.size w) _).trans (hb.mono (by simp)))
  have B1 := Aside0.mk (blk_below (blk_new w (.cells #[.int .i64 0, .int .i64 0] 25 (0, 0))) hb)
  clear hb
  go_wp2_with fail
  refine (val_Of.calls 0 0 0 _ rfl).mono ?_
  rintro e w2 ⟨rfl, hb⟩
  have HB2 := Aside0.mk (HB1.out.trans (hb.mono HB1.out.size))
  have B2 := Aside0.mk (blk_below B1.out hb)
  clear hb HB1 B1
  go_wp2_with fail
  refine (val_three.calls _ 54 #[] eg54 A0 c0 l0 0 1 0 0 r1 r2 _ (val_True.pred _) (Kd.C_below HR0.out HB2.out) HC0.out H.out).mono ?_
  rintro e w3 ⟨rfl, hb⟩
  have HB3 := Aside0.mk (HB2.out.trans (hb.mono HB2.out.size))
  have B3 := Aside0.mk (blk_below B2.out hb)
  clear hb HB2 B2
  have hc0 : _ = some (Value.int .i64 0) := (blk_cell B3.out 0).trans rfl
  have hc1 : _ = some (Value.int .i64 0) := (blk_cell B3.out 1).trans rfl
  have hz0 := blk_frozen B3.out 0
  have hz1 := blk_frozen B3.out 1
  go_wp2_with fail
  refine bodyPost_ret (results_cell_row rfl _ _ w.heap.size 25 #[.int .i64 r1, .int .i64 r2] (0, 0) _ rfl (by refine blk_put (cs := #[.int .i64 r1, .int .i64 0]) ?_ 1 _ rfl; refine blk_put (cs := #[.int .i64 0, .int .i64 0]) ?_ 0 _ rfl; exact B3.out) Try.underlying25 rfl (by kernel_rfl)) rfl ?_
  exact ⟨rfl, below_set (below_set HB3.out GE) GE⟩


/-! ### val_Add_1: function 71 -/
def val_Add_1.f (a0 : Int) (a1 : Int) : Option (Int × Bool) := some (wrap64 (a0 + a1), ((decide ((wrap64 (a0 + a1)) < a0)) == (decide (a1 < 0))))
set_option maxHeartbeats 8000000 in
set_option maxRecDepth 100000 in
theorem val_Add_1.calls (a0 : Int) (a1 : Int) (r1 : Int) (r2 : Bool) (w : World) (h : val_Add_1.f a0 a1 = some (r1, r2)) :
    Calls Try.prog 71 #[.int .i64 a0, .int .i64 a1] w fun e w' => e = .returned (.tuple #[.int .i64 r1, .bool r2]) ∧ Drawn0 w w' := by
  have H : (some (wrap64 (a0 + a1), ((decide ((wrap64 (a0 + a1)) < a0)) == (decide (a1 < 0))))) = some (r1, r2) := h
  clear h
  simp only [Option.some.injEq, Prod.mk.injEq] at H
  obtain ⟨rfl, rfl⟩ := H
  go_enter Try.func71, Try.ntmps71
  go_wp2
  go_ret2
  exact ⟨by first | rfl | (simp; done) | (simp [*]; done), by repeat (first | exact Drawn0.refl _ | apply Drawn0.step)⟩

/-! ### bits_Mul64: function 78 -/
def bits_Mul64.f (a0 : Int) (a1 : Int) : Option (Int × Int) := some (IntKind.u64.wrap ((IntKind.u64.wrap ((IntKind.u64.wrap ((a0 / 4294967296) * (a1 / 4294967296))) + ((IntKind.u64.wrap ((IntKind.u64.wrap ((a0 / 4294967296) * (Go.bits .and .u64 a1 4294967295))) + ((IntKind.u64.wrap ((Go.bits .and .u64 a0 4294967295) * (Go.bits .and .u64 a1 4294967295))) / 4294967296))) / 4294967296))) + ((IntKind.u64.wrap ((Go.bits .and .u64 (IntKind.u64.wrap ((IntKind.u64.wrap ((a0 / 4294967296) * (Go.bits .and .u64 a1 4294967295))) + ((IntKind.u64.wrap ((Go.bits .and .u64 a0 4294967295) * (Go.bits .and .u64 a1 4294967295))) / 4294967296))) 4294967295) + (IntKind.u64.wrap ((Go.bits .and .u64 a0 4294967295) * (a1 / 4294967296))))) / 4294967296)), IntKind.u64.wrap (a0 * a1))
set_option maxHeartbeats 8000000 in
set_option maxRecDepth 100000 in
theorem bits_Mul64.calls (a0 : Int) (a1 : Int) (r1 : Int) (r2 : Int) (w : World) (h : bits_Mul64.f a0 a1 = some (r1, r2)) :
    Calls Try.prog 78 #[.int .u64 a0, .int .u64 a1] w fun e w' => e = .returned (.tuple #[.int .u64 r1, .int .u64 r2]) ∧ Drawn0 w w' := by
  have H : (some (IntKind.u64.wrap ((IntKind.u64.wrap ((IntKind.u64.wrap ((a0 / 4294967296) * (a1 / 4294967296))) + ((IntKind.u64.wrap ((IntKind.u64.wrap ((a0 / 4294967296) * (Go.bits .and .u64 a1 4294967295))) + ((IntKind.u64.wrap ((Go.bits .and .u64 a0 4294967295) * (Go.bits .and .u64 a1 4294967295))) / 4294967296))) / 4294967296))) + ((IntKind.u64.wrap ((Go.bits .and .u64 (IntKind.u64.wrap ((IntKind.u64.wrap ((a0 / 4294967296) * (Go.bits .and .u64 a1 4294967295))) + ((IntKind.u64.wrap ((Go.bits .and .u64 a0 4294967295) * (Go.bits .and .u64 a1 4294967295))) / 4294967296))) 4294967295) + (IntKind.u64.wrap ((Go.bits .and .u64 a0 4294967295) * (a1 / 4294967296))))) / 4294967296)), IntKind.u64.wrap (a0 * a1))) = some (r1, r2) := h
  clear h
  simp only [Option.some.injEq, Prod.mk.injEq] at H
  obtain ⟨rfl, rfl⟩ := H
  go_enter Try.func78, Try.ntmps78
  go_wp2
  go_ret2
  exact ⟨by first | rfl | (simp; done) | (simp [*]; done), by repeat (first | exact Drawn0.refl _ | apply Drawn0.step)⟩

/-! ### val_size: function 79 -/
def val_size.f (a0 : Int) : Option (Int) := if a0 < 0 then (some (IntKind.u64.wrap (-(IntKind.u64.wrap (a0))))) else (some (IntKind.u64.wrap (a0)))
set_option maxHeartbeats 8000000 in
set_option maxRecDepth 100000 in
theorem val_size.calls (a0 : Int) (r : Int) (w : World) (h : val_size.f a0 = some r) :
    Calls Try.prog 79 #[.int .i64 a0] w fun e w' => e = .returned (.int .u64 r) ∧ Drawn0 w w' := by
  have H : (if a0 < 0 then (some (IntKind.u64.wrap (-(IntKind.u64.wrap (a0))))) else (some (IntKind.u64.wrap (a0)))) = some r := h
  clear h
  by_cases c2 : a0 < 0
  · rw [if_pos c2] at H
    have c2b0 : decide (a0 < 0) = true := decide_eq_true c2
    clear c2
    obtain rfl := Option.some.inj H
    go_enter Try.func79, Try.ntmps79
    go_wp2
    go_ret
    exact ⟨by first | rfl | (simp; done) | (simp [*]; done), by repeat (first | exact Drawn0.refl _ | apply Drawn0.step)⟩
  · rw [if_neg c2] at H
    have c2b0 : decide (a0 < 0) = false := decide_eq_false c2
    clear c2
    obtain rfl := Option.some.inj H
    go_enter Try.func79, Try.ntmps79
    go_wp2
    go_ret
    exact ⟨by first | rfl | (simp; done) | (simp [*]; done), by repeat (first | exact Drawn0.refl _ | apply Drawn0.step)⟩

/-! ### val_Mul_1: function 77 -/
def val_Mul_1.f (a0 : Int) (a1 : Int) : Option (Int × Bool) := (val_size.f a0).bind fun t114 => ((val_size.f a1).bind fun t115 => ((bits_Mul64.f t114 t115).bind fun bt116 => (if ((decide (a0 < 0)) != (decide (a1 < 0))) = true then (if bt116.1 = 0 then (some (wrap64 (a0 * a1), decide (bt116.2 ≤ (9223372036854775807 + 1)))) else (some (wrap64 (a0 * a1), false))) else (if bt116.1 = 0 then (some (wrap64 (a0 * a1), decide (bt116.2 ≤ 9223372036854775807))) else (some (wrap64 (a0 * a1), false))))))
set_option maxHeartbeats 8000000 in
set_option maxRecDepth 100000 in
theorem val_Mul_1.calls (a0 : Int) (a1 : Int) (r1 : Int) (r2 : Bool) (w : World) (h : val_Mul_1.f a0 a1 = some (r1, r2)) :
    Calls Try.prog 77 #[.int .i64 a0, .int .i64 a1] w fun e w' => e = .returned (.tuple #[.int .i64 r1, .bool r2]) ∧ Drawn0 w w' := by
  have H : ((val_size.f a0).bind fun t114 => ((val_size.f a1).bind fun t115 => ((bits_Mul64.f t114 t115).bind fun bt116 => (if ((decide (a0 < 0)) != (decide (a1 < 0))) = true then (if bt116.1 = 0 then (some (wrap64 (a0 * a1), decide (bt116.2 ≤ (9223372036854775807 + 1)))) else (some (wrap64 (a0 * a1), false))) else (if bt116.1 = 0 then (some (wrap64 (a0 * a1), decide (bt116.2 ≤ 9223372036854775807))) else (some (wrap64 (a0 * a1), false))))))) = some (r1, r2) := h
  clear h
  replace H := Option.bind_eq_some_iff.mp H
  obtain ⟨t114, A30, H⟩ := H
  replace H : ((val_size.f a1).bind fun t115 => ((bits_Mul64.f t114 t115).bind fun bt116 => (if ((decide (a0 < 0)) != (decide (a1 < 0))) = true then (if bt116.1 = 0 then (some (wrap64 (a0 * a1), decide (bt116.2 ≤ (9223372036854775807 + 1)))) else (some (wrap64 (a0 * a1), false))) else (if bt116.1 = 0 then (some (wrap64 (a0 * a1), decide (bt116.2 ≤ 9223372036854775807))) else (some (wrap64 (a0 * a1), false)))))) = some (r1, r2) := H
  have A3 := Aside0.mk A30
  clear A30
  replace H := Option.bind_eq_some_iff.mp H
  obtain ⟨t115, A40, H⟩ := H
  replace H : ((bits_Mul64.f t114 t115).bind fun bt116 => (if ((decide (a0 < 0)) != (decide (a1 < 0))) = true then (if bt116.1 = 0 then (some (wrap64 (a0 * a1), decide (bt116.2 ≤ (9223372036854775807 + 1)))) else (some (wrap64 (a0 * a1), false))) else (if bt116.1 = 0 then (some (wrap64 (a0 * a1), decide (bt116.2 ≤ 9223372036854775807))) else (some (wrap64 (a0 * a1), false))))) = some (r1, r2) := H
  have A4 := Aside0.mk A40
  clear A40
  replace H := Option.bind_eq_some_iff.mp H
  obtain ⟨⟨t116, t117⟩, A50, H⟩ := H
  replace H : (if ((decide (a0 < 0)) != (decide (a1 < 0))) = true then (if t116 = 0 then (some (wrap64 (a0 * a1), decide (t117 ≤ (9223372036854775807 + 1)))) else (some (wrap64 (a0 * a1), false))) else (if t116 = 0 then (some (wrap64 (a0 * a1), decide (t117 ≤ 9223372036854775807))) else (some (wrap64 (a0 * a1), false)))) = some (r1, r2) := H
  have A5 := Aside0.mk A50
  clear A50
  by_cases c6 : ((decide (a0 < 0)) != (decide (a1 < 0))) = true
  · rw [if_pos c6] at H
    have c6b0 : ((decide (a0 < 0)) != (decide (a1 < 0))) = true := c6
    (try (have c6b1 : decide ((decide (a0 < 0)) = (decide (a1 < 0))) = false := by simpa using c6))
    (try (have c6b2 : ((decide (a0 < 0)) == (decide (a1 < 0))) = false := by simpa using c6))
    (try (have c6b3 : ¬ ((decide (a0 < 0)) = (decide (a1 < 0))) := by simpa using c6))
    clear c6
    by_cases c7 : t116 = 0
    · rw [if_pos c7] at H
      have c7b0 : (t116 == 0) = true := beq_iff_eq.mpr c7
      have c7b1 : (t116 != 0) = false := bne_eq_false_iff_eq.mpr c7
      clear c7
      simp only [Option.some.injEq, Prod.mk.injEq] at H
      obtain ⟨rfl, rfl⟩ := H
      go_enter Try.func77, Try.ntmps77
      go_wp2_with (first | ((with_reducible refine gate_callee (f := 79) rfl ?_); refine goesL_ (some 11) rfl rfl Try.func79 (by kernel_rfl) rfl #[.int .i64 a0] rfl (by (try simp only [List.map_toArray, List.map_cons, List.map_nil]); first | done | rfl | (simp only [List.length_drop, List.length_take]; rfl)) ?_; (with_reducible refine (val_size.calls a0 t114 _ A3.out).mono ?_); rintro e w' ⟨rfl, ⟨nd, rfl⟩⟩; refine ⟨_, rfl, ?_⟩) | ((with_reducible refine gate_callee (f := 79) rfl ?_); refine goesL_ (some 13) rfl rfl Try.func79 (by kernel_rfl) rfl #[.int .i64 a1] rfl (by (try simp only [List.map_toArray, List.map_cons, List.map_nil]); first | done | rfl | (simp only [List.length_drop, List.length_take]; rfl)) ?_; (with_reducible refine (val_size.calls a1 t115 _ A4.out).mono ?_); rintro e w' ⟨rfl, ⟨nd, rfl⟩⟩; refine ⟨_, rfl, ?_⟩) | ((with_reducible refine gate_callee (f := 78) rfl ?_); refine goesL_ (some 14) rfl rfl Try.func78 (by kernel_rfl) rfl #[.int .u64 t114, .int .u64 t115] rfl (by (try simp only [List.map_toArray, List.map_cons, List.map_nil]); first | done | rfl | (simp only [List.length_drop, List.length_take]; rfl)) ?_; (with_reducible refine (bits_Mul64.calls t114 t115 t116 t117 _ A5.out).mono ?_); rintro e w' ⟨rfl, ⟨nd, rfl⟩⟩; refine ⟨_, rfl, ?_⟩))
      go_ret2
      exact ⟨by first | rfl | (simp; done) | (simp [*]; done), by repeat (first | exact Drawn0.refl _ | apply Drawn0.step)⟩
    · rw [if_neg c7] at H
      have c7b0 : (t116 == 0) = false := beq_eq_false_iff_ne.mpr c7
      have c7b1 : (t116 != 0) = true := bne_iff_ne.mpr c7
      simp only [Option.some.injEq, Prod.mk.injEq] at H
      obtain ⟨rfl, rfl⟩ := H
      go_enter Try.func77, Try.ntmps77
      go_wp2_with (first | ((with_reducible refine gate_callee (f := 79) rfl ?_); refine goesL_ (some 11) rfl rfl Try.func79 (by kernel_rfl) rfl #[.int .i64 a0] rfl (by (try simp only [List.map_toArray, List.map_cons, List.map_nil]); first | done | rfl | (simp only [List.length_drop, List.length_take]; rfl)) ?_; (with_reducible refine (val_size.calls a0 t114 _ A3.out).mono ?_); rintro e w' ⟨rfl, ⟨nd, rfl⟩⟩; refine ⟨_, rfl, ?_⟩) | ((with_reducible refine gate_callee (f := 79) rfl ?_); refine goesL_ (some 13) rfl rfl Try.func79 (by kernel_rfl) rfl #[.int .i64 a1] rfl (by (try simp only [List.map_toArray, List.map_cons, List.map_nil]); first | done | rfl | (simp only [List.length_drop, List.length_take]; rfl)) ?_; (with_reducible refine (val_size.calls a1 t115 _ A4.out).mono ?_); rintro e w' ⟨rfl, ⟨nd, rfl⟩⟩; refine ⟨_, rfl, ?_⟩) | ((with_reducible refine gate_callee (f := 78) rfl ?_); refine goesL_ (some 14) rfl rfl Try.func78 (by kernel_rfl) rfl #[.int .u64 t114, .int .u64 t115] rfl (by (try simp only [List.map_toArray, List.map_cons, List.map_nil]); first | done | rfl | (simp only [List.length_drop, List.length_take]; rfl)) ?_; (with_reducible refine (bits_Mul64.calls t114 t115 t116 t117 _ A5.out).mono ?_); rintro e w' ⟨rfl, ⟨nd, rfl⟩⟩; refine ⟨_, rfl, ?_⟩))
      go_ret2
      exact ⟨by first | rfl | (simp; done) | (simp [*]; done), by repeat (first | exact Drawn0.refl _ | apply Drawn0.step)⟩
  · rw [if_neg c6] at H
    have c6b0 : ((decide (a0 < 0)) != (decide (a1 < 0))) = false := by simpa using c6
    (try (have c6b1 : decide ((decide (a0 < 0)) = (decide (a1 < 0))) = true := by simpa using c6))
    (try (have c6b2 : ((decide (a0 < 0)) == (decide (a1 < 0))) = true := by simpa using c6))
    clear c6
    by_cases c8 : t116 = 0
    · rw [if_pos c8] at H
      have c8b0 : (t116 == 0) = true := beq_iff_eq.mpr c8
      have c8b1 : (t116 != 0) = false := bne_eq_false_iff_eq.mpr c8
      clear c8
      simp only [Option.some.injEq, Prod.mk.injEq] at H
      obtain ⟨rfl, rfl⟩ := H
      go_enter Try.func77, Try.ntmps77
      go_wp2_with (first | ((with_reducible refine gate_callee (f := 79) rfl ?_); refine goesL_ (some 11) rfl rfl Try.func79 (by kernel_rfl) rfl #[.int .i64 a0] rfl (by (try simp only [List.map_toArray, List.map_cons, List.map_nil]); first | done | rfl | (simp only [List.length_drop, List.length_take]; rfl)) ?_; (with_reducible refine (val_size.calls a0 t114 _ A3.out).mono ?_); rintro e w' ⟨rfl, ⟨nd, rfl⟩⟩; refine ⟨_, rfl, ?_⟩) | ((with_reducible refine gate_callee (f := 79) rfl ?_); refine goesL_ (some 13) rfl rfl Try.func79 (by kernel_rfl) rfl #[.int .i64 a1] rfl (by (try simp only [List.map_toArray, List.map_cons, List.map_nil]); first | done | rfl | (simp only [List.length_drop, List.length_take]; rfl)) ?_; (with_reducible refine (val_size.calls a1 t115 _ A4.out).mono ?_); rintro e w' ⟨rfl, ⟨nd, rfl⟩⟩; refine ⟨_, rfl, ?_⟩) | ((with_reducible refine gate_callee (f := 78) rfl ?_); refine goesL_ (some 14) rfl rfl Try.func78 (by kernel_rfl) rfl #[.int .u64 t114, .int .u64 t115] rfl (by (try simp only [List.map_toArray, List.map_cons, List.map_nil]); first | done | rfl | (simp only [List.length_drop, List.length_take]; rfl)) ?_; (with_reducible refine (bits_Mul64.calls t114 t115 t116 t117 _ A5.out).mono ?_); rintro e w' ⟨rfl, ⟨nd, rfl⟩⟩; refine ⟨_, rfl, ?_⟩))
      go_ret2
      exact ⟨by first | rfl | (simp; done) | (simp [*]; done), by repeat (first | exact Drawn0.refl _ | apply Drawn0.step)⟩
    · rw [if_neg c8] at H
      have c8b0 : (t116 == 0) = false := beq_eq_false_iff_ne.mpr c8
      have c8b1 : (t116 != 0) = true := bne_iff_ne.mpr c8
      simp only [Option.some.injEq, Prod.mk.injEq] at H
      obtain ⟨rfl, rfl⟩ := H
      go_enter Try.func77, Try.ntmps77
      go_wp2_with (first | ((with_reducible refine gate_callee (f := 79) rfl ?_); refine goesL_ (some 11) rfl rfl Try.func79 (by kernel_rfl) rfl #[.int .i64 a0] rfl (by (try simp only [List.map_toArray, List.map_cons, List.map_nil]); first | done | rfl | (simp only [List.length_drop, List.length_take]; rfl)) ?_; (with_reducible refine (val_size.calls a0 t114 _ A3.out).mono ?_); rintro e w' ⟨rfl, ⟨nd, rfl⟩⟩; refine ⟨_, rfl, ?_⟩) | ((with_reducible refine gate_callee (f := 79) rfl ?_); refine goesL_ (some 13) rfl rfl Try.func79 (by kernel_rfl) rfl #[.int .i64 a1] rfl (by (try simp only [List.map_toArray, List.map_cons, List.map_nil]); first | done | rfl | (simp only [List.length_drop, List.length_take]; rfl)) ?_; (with_reducible refine (val_size.calls a1 t115 _ A4.out).mono ?_); rintro e w' ⟨rfl, ⟨nd, rfl⟩⟩; refine ⟨_, rfl, ?_⟩) | ((with_reducible refine gate_callee (f := 78) rfl ?_); refine goesL_ (some 14) rfl rfl Try.func78 (by kernel_rfl) rfl #[.int .u64 t114, .int .u64 t115] rfl (by (try simp only [List.map_toArray, List.map_cons, List.map_nil]); first | done | rfl | (simp only [List.length_drop, List.length_take]; rfl)) ?_; (with_reducible refine (bits_Mul64.calls t114 t115 t116 t117 _ A5.out).mono ?_); rintro e w' ⟨rfl, ⟨nd, rfl⟩⟩; refine ⟨_, rfl, ?_⟩))
      go_ret2
      exact ⟨by first | rfl | (simp; done) | (simp [*]; done), by repeat (first | exact Drawn0.refl _ | apply Drawn0.step)⟩

/-! ### val_Sub_1: function 80 -/
def val_Sub_1.f (a0 : Int) (a1 : Int) : Option (Int × Bool) := some (wrap64 (a0 - a1), ((decide ((wrap64 (a0 - a1)) > a0)) == (decide (a1 < 0))))
set_option maxHeartbeats 8000000 in
set_option maxRecDepth 100000 in
theorem val_Sub_1.calls (a0 : Int) (a1 : Int) (r1 : Int) (r2 : Bool) (w : World) (h : val_Sub_1.f a0 a1 = some (r1, r2)) :
    Calls Try.prog 80 #[.int .i64 a0, .int .i64 a1] w fun e w' => e = .returned (.tuple #[.int .i64 r1, .bool r2]) ∧ Drawn0 w w' := by
  have H : (some (wrap64 (a0 - a1), ((decide ((wrap64 (a0 - a1)) > a0)) == (decide (a1 < 0))))) = some (r1, r2) := h
  clear h
  simp only [Option.some.injEq, Prod.mk.injEq] at H
  obtain ⟨rfl, rfl⟩ := H
  go_enter Try.func80, Try.ntmps80
  go_wp2
  go_ret2
  exact ⟨by first | rfl | (simp; done) | (simp [*]; done), by repeat (first | exact Drawn0.refl _ | apply Drawn0.step)⟩

/-! ### val_Div_1: function 81 -/
def val_Div_1.f (a0 : Int) (a1 : Int) : Option (Int × Bool) := if a1 = 0 then (some (0, false)) else (if a0 = (-9223372036854775808) then (if a1 = (-1) then (some (0, false)) else (some (wrap64 (Int.tdiv a0 a1), true))) else (some (wrap64 (Int.tdiv a0 a1), true)))
set_option maxHeartbeats 8000000 in
set_option maxRecDepth 100000 in
theorem val_Div_1.calls (a0 : Int) (a1 : Int) (r1 : Int) (r2 : Bool) (w : World) (h : val_Div_1.f a0 a1 = some (r1, r2)) :
    Calls Try.prog 81 #[.int .i64 a0, .int .i64 a1] w fun e w' => e = .returned (.tuple #[.int .i64 r1, .bool r2]) ∧ Drawn0 w w' := by
  have H : (if a1 = 0 then (some (0, false)) else (if a0 = (-9223372036854775808) then (if a1 = (-1) then (some (0, false)) else (some (wrap64 (Int.tdiv a0 a1), true))) else (some (wrap64 (Int.tdiv a0 a1), true)))) = some (r1, r2) := h
  clear h
  by_cases c3 : a1 = 0
  · rw [if_pos c3] at H
    have c3b0 : (a1 == 0) = true := beq_iff_eq.mpr c3
    have c3b1 : (a1 != 0) = false := bne_eq_false_iff_eq.mpr c3
    clear c3
    simp only [Option.some.injEq, Prod.mk.injEq] at H
    obtain ⟨rfl, rfl⟩ := H
    go_enter Try.func81, Try.ntmps81
    go_wp2
    go_ret2
    exact ⟨by first | rfl | (simp; done) | (simp [*]; done), by repeat (first | exact Drawn0.refl _ | apply Drawn0.step)⟩
  · rw [if_neg c3] at H
    have c3b0 : (a1 == 0) = false := beq_eq_false_iff_ne.mpr c3
    have c3b1 : (a1 != 0) = true := bne_iff_ne.mpr c3
    by_cases c4 : a0 = (-9223372036854775808)
    · rw [if_pos c4] at H
      have c4b0 : (a0 == (-9223372036854775808)) = true := beq_iff_eq.mpr c4
      have c4b1 : (a0 != (-9223372036854775808)) = false := bne_eq_false_iff_eq.mpr c4
      clear c4
      by_cases c5 : a1 = (-1)
      · rw [if_pos c5] at H
        have c5b0 : (a1 == (-1)) = true := beq_iff_eq.mpr c5
        have c5b1 : (a1 != (-1)) = false := bne_eq_false_iff_eq.mpr c5
        clear c5
        simp only [Option.some.injEq, Prod.mk.injEq] at H
        obtain ⟨rfl, rfl⟩ := H
        go_enter Try.func81, Try.ntmps81
        go_wp2
        go_ret2
        exact ⟨by first | rfl | (simp; done) | (simp [*]; done), by repeat (first | exact Drawn0.refl _ | apply Drawn0.step)⟩
      · rw [if_neg c5] at H
        have c5b0 : (a1 == (-1)) = false := beq_eq_false_iff_ne.mpr c5
        have c5b1 : (a1 != (-1)) = true := bne_iff_ne.mpr c5
        simp only [Option.some.injEq, Prod.mk.injEq] at H
        obtain ⟨rfl, rfl⟩ := H
        go_enter Try.func81, Try.ntmps81
        go_wp2
        go_ret2
        exact ⟨by first | rfl | (simp; done) | (simp [*]; done), by repeat (first | exact Drawn0.refl _ | apply Drawn0.step)⟩
    · rw [if_neg c4] at H
      have c4b0 : (a0 == (-9223372036854775808)) = false := beq_eq_false_iff_ne.mpr c4
      have c4b1 : (a0 != (-9223372036854775808)) = true := bne_iff_ne.mpr c4
      simp only [Option.some.injEq, Prod.mk.injEq] at H
      obtain ⟨rfl, rfl⟩ := H
      go_enter Try.func81, Try.ntmps81
      go_wp2
      go_ret2
      exact ⟨by first | rfl | (simp; done) | (simp [*]; done), by repeat (first | exact Drawn0.refl _ | apply Drawn0.step)⟩

/-! ### val_Add: function 22 -/
theorem C25_two (W : World) (b : Nat) (t : TypeId) (x y : S25) (h : W.heap[b]? = some (.cells #[.int .i64 x.f0, .int .i64 x.f1, .int .i64 y.f0, .int .i64 y.f1] t (0, 0))) : Kd.C k25 W (some ⟨b, 0, none⟩) 2 [x, y] := by
  refine ⟨rfl, by omega, fun _ => ⟨_, rfl, fun j p hj => ?_⟩⟩
  have hcell := fun i => blk_cell h i
  match j, hj with
  | 0, hj =>
    obtain rfl : x = p := by simpa using hj
    refine ⟨[.int .i64 x.f0, .int .i64 x.f1], rfl, ⟨[.int .i64 x.f0], [.int .i64 x.f1], rfl, rfl, rfl⟩, fun i u hu => ?_⟩
    match i, hu with
    | 0, hu => exact (hcell 0).trans (by simpa using hu)
    | 1, hu => exact (hcell 1).trans (by simpa using hu)
    | i + 2, hu => simp at hu
  | 1, hj =>
    obtain rfl : y = p := by simpa using hj
    refine ⟨[.int .i64 y.f0, .int .i64 y.f1], rfl, ⟨[.int .i64 y.f0], [.int .i64 y.f1], rfl, rfl, rfl⟩, fun i u hu => ?_⟩
    match i, hu with
    | 0, hu => exact (hcell 2).trans (by simpa using hu)
    | 1, hu => exact (hcell 3).trans (by simpa using hu)
    | i + 2, hu => simp at hu
  | j + 2, hj => simp at hj
/-- what is asked of a function of two numbers -/
def wFn (g : Nat) (q : Int → Int → Int × Bool) : Prop := ∀ (W : World) (x y : Int), Calls Try.prog g #[.int .i64 x, .int .i64 y] W fun e w' => e = .returned (.tuple #[.int .i64 (q x y).1, .bool (q x y).2]) ∧ Below W.heap.size W w'
def reckonV (q : Int → Int → Int × Bool) (a0 a1 b0 b1 : Int) : Int × Int := if (oddV [⟨a0, a1⟩, ⟨b0, b1⟩]).2.2 then ((oddV [⟨a0, a1⟩, ⟨b0, b1⟩]).1, (oddV [⟨a0, a1⟩, ⟨b0, b1⟩]).2.1) else if (q a1 b1).2 then (0, (q a1 b1).1) else (2, 0)
set_option maxHeartbeats 800000 in
set_option maxRecDepth 100000 in
theorem val_reckon.calls (q : Int → Int → Int × Bool) (g : Nat) (eg : ∀ args w, (callFunc g args).run Try.prog w = .ok (.enter g args) w) (a0 a1 b0 b1 r1 r2 : Int) (w : World) (hq : wFn g q) (h : reckonV q a0 a1 b0 b1 = (r1, r2)) :
    Calls Try.prog 70 #[.agg #[.int .i64 a0, .int .i64 a1], .agg #[.int .i64 b0, .int .i64 b1], .func (.func g) #[] #[]] w fun e w' => e = .returned (.agg #[.int .i64 r1, .int .i64 r2]) ∧ Below w.heap.size w w' := by
  have HQ := Aside0.mk hq
  clear hq
  have hu25 := Try.underlying25
  have H := Aside0.mk h
  clear h
  go_enter Try.func70, Try.ntmps70
  go_wp2_with fail
  obtain ⟨o1, o2, o3, ho⟩ : ∃ o1 o2 o3, oddV [⟨a0, a1⟩, ⟨b0, b1⟩] = (o1, o2, o3) := ⟨_, _, _, rfl⟩
  have n1 := blk_new w (.cells #[.int .i64 a0, .int .i64 a1] 25 (0, 0))
  have n2 := blk_new (w.alloc (.cells #[.int .i64 a0, .int .i64 a1] 25 (0, 0))) (.cells #[.int .i64 b0, .int .i64 b1] 25 (0, 0))
  have n3 := blk_new ((w.alloc (.cells #[.int .i64 a0, .int .i64 a1] 25 (0, 0))).alloc (.cells #[.int .i64 b0, .int .i64 b1] 25 (0, 0))) (.cells #[.int .i64 0, .int .i64 0] 25 (0, 0))
  have n4 := blk_new (((w.alloc (.cells #[.int .i64 a0, .int .i64 a1] 25 (0, 0))).alloc (.cells #[.int .i64 b0, .int .i64 b1] 25 (0, 0))).alloc (.cells #[.int .i64 0, .int .i64 0] 25 (0, 0))) (.cells #[.int .i64 a0, .int .i64 a1, .int .i64 b0, .int .i64 b1] 25 (0, 0))
  have n1 := blk_alloc (blk_alloc (blk_alloc n1 (.cells #[.int .i64 b0, .int .i64 b1] 25 (0, 0))) (.cells #[.int .i64 0, .int .i64 0] 25 (0, 0))) (.cells #[.int .i64 a0, .int .i64 a1, .int .i64 b0, .int .i64 b1] 25 (0, 0))
  have n2 := blk_alloc (blk_alloc n2 (.cells #[.int .i64 0, .int .i64 0] 25 (0, 0))) (.cells #[.int .i64 a0, .int .i64 a1, .int .i64 b0, .int .i64 b1] 25 (0, 0))
  have n3 := blk_alloc n3 (.cells #[.int .i64 a0, .int .i64 a1, .int .i64 b0, .int .i64 b1] 25 (0, 0))
  simp only [World.size_alloc] at n2 n3 n4
  refine (val_odd.calls _ 2 [⟨a0, a1⟩, ⟨b0, b1⟩] o1 o2 o3 _ (C25_two _ _ 25 ⟨a0, a1⟩ ⟨b0, b1⟩ n4) (Nat.le_refl _) (by unfold val_odd.f; rw [ho])).mono ?_
  rintro e w1 ⟨rfl, hb⟩
  have HB1 := Aside0.mk ((show Below w.heap.size w _ by repeat (first | apply below_alloc | exact Below.refl _ _)).trans (hb.mono (by simp; omega)))
  have B1 := Aside0.mk (blk_below n1 hb)
  have B2 := Aside0.mk (blk_below n2 hb)
  have B3 := Aside0.mk (blk_below n3 hb)
  have LT := blk_lt B3.out
  clear n1 n2 n3 n4 hb
  have GE3 : w.heap.size ≤ w.heap.size + 1 + 1 := by omega
  have hne1 : w.heap.size ≠ w1.heap.size := by omega
  have hne2 : w.heap.size + 1 ≠ w1.heap.size := by omega
  have hne3 : w.heap.size + 1 + 1 ≠ w1.heap.size := by omega
  have H1 := Aside0.mk (show (if o3 = true then (o1, o2) else if (q a1 b1).2 then (0, (q a1 b1).1) else (2, 0)) = (r1, r2) by have := H.out; unfold reckonV at this; rw [ho] at this; exact this)
  clear ho H
  cases o3 with
  | true =>
    obtain ⟨rfl, rfl⟩ := Prod.mk.inj H1.out
    clear H1
    have hc0 : _ = some (Value.int .i64 0) := (blk_cell B3.out 0).trans rfl
    have hc1 : _ = some (Value.int .i64 0) := (blk_cell B3.out 1).trans rfl
    have hz0 := blk_frozen B3.out 0
    have hz1 := blk_frozen B3.out 1
    go_wp2_with fail
    refine bodyPost_ret (results_cell_row rfl _ _ (w.heap.size + 1 + 1) 25 #[.int .i64 o1, .int .i64 o2] (0, 0) _ rfl (by refine blk_alloc ?_ _; refine blk_put (cs := #[.int .i64 o1, .int .i64 0]) ?_ 1 _ rfl; refine blk_put (cs := #[.int .i64 0, .int .i64 0]) ?_ 0 _ rfl; exact B3.out) Try.underlying25 rfl (by kernel_rfl)) rfl ?_
    exact ⟨rfl, below_alloc' (below_set (below_set HB1.out GE3) GE3) _⟩
  | false =>
    have ha1 : ∀ o, (w1.alloc o).cell? ⟨w.heap.size, 1, none⟩ = some (Value.int .i64 a1) := fun o => (blk_cell (blk_alloc B1.out o) 1).trans rfl
    have hb1 : ∀ o, (w1.alloc o).cell? ⟨w.heap.size + 1, 1, none⟩ = some (Value.int .i64 b1) := fun o => (blk_cell (blk_alloc B2.out o) 1).trans rfl
    go_wp2_with fail
    refine (HQ.out _ a1 b1).mono ?_
    rintro e w2 ⟨rfl, hb⟩
    have C3 := Aside0.mk (blk_below (blk_alloc B3.out _) hb)
    have HB2 := Aside0.mk ((below_alloc' HB1.out _).trans (hb.mono (by have := HB1.out.size; simp; omega)))
    clear hb ha1 hb1 B1 B2 B3 HB1
    have H2 := Aside0.mk (show (if (q a1 b1).2 then (0, (q a1 b1).1) else (2, 0)) = (r1, r2) from H1.out)
    clear H1
    generalize q a1 b1 = z at H2 ⊢
    obtain ⟨z1, z2⟩ := z
    cases z2 with
    | true =>
      obtain ⟨rfl, rfl⟩ := Prod.mk.inj H2.out
      clear H2
      go_wp2_with fail
      refine (val_Of.calls _ 0 z1 _ rfl).mono ?_
      rintro e w3 ⟨rfl, hb⟩
      have D3 := Aside0.mk (blk_below C3.out hb)
      have HB3 := Aside0.mk (HB2.out.trans (hb.mono HB2.out.size))
      clear hb C3 HB2
      have hc0 : _ = some (Value.int .i64 0) := (blk_cell D3.out 0).trans rfl
      have hc1 : _ = some (Value.int .i64 0) := (blk_cell D3.out 1).trans rfl
      have hz0 := blk_frozen D3.out 0
      have hz1 := blk_frozen D3.out 1
      go_wp2_with fail
      refine bodyPost_ret (results_cell_row rfl _ _ (w.heap.size + 1 + 1) 25 #[.int .i64 0, .int .i64 z1] (0, 0) _ rfl (by refine blk_put (cs := #[.int .i64 0, .int .i64 0]) ?_ 1 _ rfl; refine blk_put (cs := #[.int .i64 0, .int .i64 0]) ?_ 0 _ rfl; exact D3.out) Try.underlying25 rfl (by kernel_rfl)) rfl ?_
      exact ⟨rfl, below_set (below_set HB3.out GE3) GE3⟩
    | false =>
      obtain ⟨rfl, rfl⟩ := Prod.mk.inj H2.out
      clear H2
      go_wp2_with fail
      refine (val_bad.calls 2 0 _ rfl).mono ?_
      rintro e w3 ⟨rfl, hb⟩
      have D3 := Aside0.mk (blk_below C3.out hb)
      have HB3 := Aside0.mk (HB2.out.trans (hb.mono HB2.out.size))
      clear hb C3 HB2
      have hc0 : _ = some (Value.int .i64 0) := (blk_cell D3.out 0).trans rfl
      have hc1 : _ = some (Value.int .i64 0) := (blk_cell D3.out 1).trans rfl
      have hz0 := blk_frozen D3.out 0
      have hz1 := blk_frozen D3.out 1
      go_wp2_with fail
      refine bodyPost_ret (results_cell_row rfl _ _ (w.heap.size + 1 + 1) 25 #[.int .i64 2, .int .i64 0] (0, 0) _ rfl (by refine blk_put (cs := #[.int .i64 2, .int .i64 0]) ?_ 1 _ rfl; refine blk_put (cs := #[.int .i64 0, .int .i64 0]) ?_ 0 _ rfl; exact D3.out) Try.underlying25 rfl (by kernel_rfl)) rfl ?_
      exact ⟨rfl, below_set (below_set HB3.out GE3) GE3⟩
def qOf (f : Int → Int → Option (Int × Bool)) : Int → Int → Int × Bool := fun x y => (f x y).getD (0, false)
theorem qOf_some {f : Int → Int → Option (Int × Bool)} {x y : Int} (h : (f x y).isSome = true) : f x y = some ((qOf f x y).1, (qOf f x y).2) := by
  unfold qOf; cases hf : f x y with
  | none => rw [hf] at h; cases h
  | some r => rfl
theorem val_Add_1.isSome (x y : Int) : (val_Add_1.f x y).isSome = true := rfl
theorem val_Sub_1.isSome (x y : Int) : (val_Sub_1.f x y).isSome = true := rfl
theorem val_size.isSome (x : Int) : ∃ r, val_size.f x = some r := by unfold val_size.f; split <;> exact ⟨_, rfl⟩
theorem val_Mul_1.isSome (x y : Int) : (val_Mul_1.f x y).isSome = true := by
  unfold val_Mul_1.f
  obtain ⟨a, ha⟩ := val_size.isSome x
  obtain ⟨b, hb⟩ := val_size.isSome y
  rw [ha, Option.bind_some, hb, Option.bind_some]
  unfold bits_Mul64.f
  rw [Option.bind_some]
  repeat' split
  all_goals rfl
theorem val_Div_1.isSome (x y : Int) : (val_Div_1.f x y).isSome = true := by
  unfold val_Div_1.f
  repeat' split
  all_goals rfl

theorem eg71 : ∀ args w, (callFunc 71 args).run Try.prog w = .ok (.enter 71 args) w := enters_of Try.func71 (by kernel_rfl) rfl
theorem val_Add_1.fn : wFn 71 (qOf val_Add_1.f) := fun W x y => (val_Add_1.calls x y _ _ W (qOf_some (val_Add_1.isSome x y))).mono fun _ _ ⟨h1, h2⟩ => ⟨h1, h2.below⟩
def val_Add.f (a0_0 : Int) (a0_1 : Int) (a1_0 : Int) (a1_1 : Int) : Option (Int × Int) := some (reckonV (qOf val_Add_1.f) a0_0 a0_1 a1_0 a1_1)
set_option maxHeartbeats 800000 in
set_option maxRecDepth 100000 in
theorem val_Add.calls (a0_0 : Int) (a0_1 : Int) (a1_0 : Int) (a1_1 : Int) (r1 : Int) (r2 : Int) (w : World) (h : val_Add.f a0_0 a0_1 a1_0 a1_1 = some (r1, r2)) :
    Calls Try.prog 22 #[.agg #[.int .i64 a0_0, .int .i64 a0_1], .agg #[.int .i64 a1_0, .int .i64 a1_1]] w fun e w' => e = .returned (.agg #[.int .i64 r1, .int .i64 r2]) ∧ Below w.heap.size w w' := by
  have hu25 := Try.underlying25
  have H := Aside0.mk (Option.some.inj h)
  clear h
  have n3 := blk_new ((w.alloc (.cells #[.int .i64 a0_0, .int .i64 a0_1] 25 (0, 0))).alloc (.cells #[.int .i64 a1_0, .int .i64 a1_1] 25 (0, 0))) (.cells #[.int .i64 0, .int .i64 0] 25 (0, 0))
  simp only [World.size_alloc] at n3
  have B3 := Aside0.mk n3
  clear n3
  have GE3 : w.heap.size ≤ w.heap.size + 1 + 1 := by omega
  go_enter Try.func22, Try.ntmps22
  go_wp2_with fail
  refine (val_reckon.calls (qOf val_Add_1.f) 71 eg71 a0_0 a0_1 a1_0 a1_1 r1 r2 _ val_Add_1.fn H.out).mono ?_
  rintro e w1 ⟨rfl, hb⟩
  have HB1 := Aside0.mk ((show Below w.heap.size w _ by repeat (first | apply below_alloc | exact Below.refl _ _)).trans (hb.mono (by simp; omega)))
  have D3 := Aside0.mk (blk_below B3.out hb)
  clear hb B3
  have hc0 : _ = some (Value.int .i64 0) := (blk_cell D3.out 0).trans rfl
  have hc1 : _ = some (Value.int .i64 0) := (blk_cell D3.out 1).trans rfl
  have hz0 := blk_frozen D3.out 0
  have hz1 := blk_frozen D3.out 1
  go_wp2_with fail
  refine bodyPost_ret (results_cell_row rfl _ _ (w.heap.size + 1 + 1) 25 #[.int .i64 r1, .int .i64 r2] (0, 0) _ rfl (by refine blk_put (cs := #[.int .i64 r1, .int .i64 0]) ?_ 1 _ rfl; refine blk_put (cs := #[.int .i64 0, .int .i64 0]) ?_ 0 _ rfl; exact D3.out) Try.underlying25 rfl (by kernel_rfl)) rfl ?_
  exact ⟨rfl, below_set (below_set HB1.out GE3) GE3⟩

theorem eg80 : ∀ args w, (callFunc 80 args).run Try.prog w = .ok (.enter 80 args) w := enters_of Try.func80 (by kernel_rfl) rfl
theorem val_Sub_1.fn : wFn 80 (qOf val_Sub_1.f) := fun W x y => (val_Sub_1.calls x y _ _ W (qOf_some (val_Sub_1.isSome x y))).mono fun _ _ ⟨h1, h2⟩ => ⟨h1, h2.below⟩
def val_Sub.f (a0_0 : Int) (a0_1 : Int) (a1_0 : Int) (a1_1 : Int) : Option (Int × Int) := some (reckonV (qOf val_Sub_1.f) a0_0 a0_1 a1_0 a1_1)
set_option maxHeartbeats 800000 in
set_option maxRecDepth 100000 in
theorem val_Sub.calls (a0_0 : Int) (a0_1 : Int) (a1_0 : Int) (a1_1 : Int) (r1 : Int) (r2 : Int) (w : World) (h : val_Sub.f a0_0 a0_1 a1_0 a1_1 = some (r1, r2)) :
    Calls Try.prog 26 #[.agg #[.int .i64 a0_0, .int .i64 a0_1], .agg #[.int .i64 a1_0, .int .i64 a1_1]] w fun e w' => e = .returned (.agg #[.int .i64 r1, .int .i64 r2]) ∧ Below w.heap.size w w' := by
  have hu25 := Try.underlying25
  have H := Aside0.mk (Option.some.inj h)
  clear h
  have n3 := blk_new ((w.alloc (.cells #[.int .i64 a0_0, .int .i64 a0_1] 25 (0, 0))).alloc (.cells #[.int .i64 a1_0, .int .i64 a1_1] 25 (0, 0))) (.cells #[.int .i64 0, .int .i64 0] 25 (0, 0))
  simp only [World.size_alloc] at n3
  have B3 := Aside0.mk n3
  clear n3
  have GE3 : w.heap.size ≤ w.heap.size + 1 + 1 := by omega
  go_enter Try.func26, Try.ntmps26
  go_wp2_with fail
  refine (val_reckon.calls (qOf val_Sub_1.f) 80 eg80 a0_0 a0_1 a1_0 a1_1 r1 r2 _ val_Sub_1.fn H.out).mono ?_
  rintro e w1 ⟨rfl, hb⟩
  have HB1 := Aside0.mk ((show Below w.heap.size w _ by repeat (first | apply below_alloc | exact Below.refl _ _)).trans (hb.mono (by simp; omega)))
  have D3 := Aside0.mk (blk_below B3.out hb)
  clear hb B3
  have hc0 : _ = some (Value.int .i64 0) := (blk_cell D3.out 0).trans rfl
  have hc1 : _ = some (Value.int .i64 0) := (blk_cell D3.out 1).trans rfl
  have hz0 := blk_frozen D3.out 0
  have hz1 := blk_frozen D3.out 1
  go_wp2_with fail
  refine bodyPost_ret (results_cell_row rfl _ _ (w.heap.size + 1 + 1) 25 #[.int .i64 r1, .int .i64 r2] (0, 0) _ rfl (by refine blk_put (cs := #[.int .i64 r1, .int .i64 0]) ?_ 1 _ rfl; refine blk_put (cs := #[.int .i64 0, .int .i64 0]) ?_ 0 _ rfl; exact D3.out) Try.underlying25 rfl (by kernel_rfl)) rfl ?_
  exact ⟨rfl, below_set (below_set HB1.out GE3) GE3⟩

theorem eg77 : ∀ args w, (callFunc 77 args).run Try.prog w = .ok (.enter 77 args) w := enters_of Try.func77 (by kernel_rfl) rfl
theorem val_Mul_1.fn : wFn 77 (qOf val_Mul_1.f) := fun W x y => (val_Mul_1.calls x y _ _ W (qOf_some (val_Mul_1.isSome x y))).mono fun _ _ ⟨h1, h2⟩ => ⟨h1, h2.below⟩
def val_Mul.f (a0_0 : Int) (a0_1 : Int) (a1_0 : Int) (a1_1 : Int) : Option (Int × Int) := some (reckonV (qOf val_Mul_1.f) a0_0 a0_1 a1_0 a1_1)
set_option maxHeartbeats 800000 in
set_option maxRecDepth 100000 in
theorem val_Mul.calls (a0_0 : Int) (a0_1 : Int) (a1_0 : Int) (a1_1 : Int) (r1 : Int) (r2 : Int) (w : World) (h : val_Mul.f a0_0 a0_1 a1_0 a1_1 = some (r1, r2)) :
    Calls Try.prog 24 #[.agg #[.int .i64 a0_0, .int .i64 a0_1], .agg #[.int .i64 a1_0, .int .i64 a1_1]] w fun e w' => e = .returned (.agg #[.int .i64 r1, .int .i64 r2]) ∧ Below w.heap.size w w' := by
  have hu25 := Try.underlying25
  have H := Aside0.mk (Option.some.inj h)
  clear h
  have n3 := blk_new ((w.alloc (.cells #[.int .i64 a0_0, .int .i64 a0_1] 25 (0, 0))).alloc (.cells #[.int .i64 a1_0, .int .i64 a1_1] 25 (0, 0))) (.cells #[.int .i64 0, .int .i64 0] 25 (0, 0))
  simp only [World.size_alloc] at n3
  have B3 := Aside0.mk n3
  clear n3
  have GE3 : w.heap.size ≤ w.heap.size + 1 + 1 := by omega
  go_enter Try.func24, Try.ntmps24
  go_wp2_with fail
  refine (val_reckon.calls (qOf val_Mul_1.f) 77 eg77 a0_0 a0_1 a1_0 a1_1 r1 r2 _ val_Mul_1.fn H.out).mono ?_
  rintro e w1 ⟨rfl, hb⟩
  have HB1 := Aside0.mk ((show Below w.heap.size w _ by repeat (first | apply below_alloc | exact Below.refl _ _)).trans (hb.mono (by simp; omega)))
  have D3 := Aside0.mk (blk_below B3.out hb)
  clear hb B3
  have hc0 : _ = some (Value.int .i64 0) := (blk_cell D3.out 0).trans rfl
  have hc1 : _ = some (Value.int .i64 0) := (blk_cell D3.out 1).trans rfl
  have hz0 := blk_frozen D3.out 0
  have hz1 := blk_frozen D3.out 1
  go_wp2_with fail
  refine bodyPost_ret (results_cell_row rfl _ _ (w.heap.size + 1 + 1) 25 #[.int .i64 r1, .int .i64 r2] (0, 0) _ rfl (by refine blk_put (cs := #[.int .i64 r1, .int .i64 0]) ?_ 1 _ rfl; refine blk_put (cs := #[.int .i64 0, .int .i64 0]) ?_ 0 _ rfl; exact D3.out) Try.underlying25 rfl (by kernel_rfl)) rfl ?_
  exact ⟨rfl, below_set (below_set HB1.out GE3) GE3⟩

theorem eg81 : ∀ args w, (callFunc 81 args).run Try.prog w = .ok (.enter 81 args) w := enters_of Try.func81 (by kernel_rfl) rfl
theorem val_Div_1.fn : wFn 81 (qOf val_Div_1.f) := fun W x y => (val_Div_1.calls x y _ _ W (qOf_some (val_Div_1.isSome x y))).mono fun _ _ ⟨h1, h2⟩ => ⟨h1, h2.below⟩
def val_Div.f (a0_0 : Int) (a0_1 : Int) (a1_0 : Int) (a1_1 : Int) : Option (Int × Int) := some (reckonV (qOf val_Div_1.f) a0_0 a0_1 a1_0 a1_1)
set_option maxHeartbeats 800000 in
set_option maxRecDepth 100000 in
theorem val_Div.calls (a0_0 : Int) (a0_1 : Int) (a1_0 : Int) (a1_1 : Int) (r1 : Int) (r2 : Int) (w : World) (h : val_Div.f a0_0 a0_1 a1_0 a1_1 = some (r1, r2)) :
    Calls Try.prog 27 #[.agg #[.int .i64 a0_0, .int .i64 a0_1], .agg #[.int .i64 a1_0, .int .i64 a1_1]] w fun e w' => e = .returned (.agg #[.int .i64 r1, .int .i64 r2]) ∧ Below w.heap.size w w' := by
  have hu25 := Try.underlying25
  have H := Aside0.mk (Option.some.inj h)
  clear h
  have n3 := blk_new ((w.alloc (.cells #[.int .i64 a0_0, .int .i64 a0_1] 25 (0, 0))).alloc (.cells #[.int .i64 a1_0, .int .i64 a1_1] 25 (0, 0))) (.cells #[.int .i64 0, .int .i64 0] 25 (0, 0))
  simp only [World.size_alloc] at n3
  have B3 := Aside0.mk n3
  clear n3
  have GE3 : w.heap.size ≤ w.heap.size + 1 + 1 := by omega
  go_enter Try.func27, Try.ntmps27
  go_wp2_with fail
  refine (val_reckon.calls (qOf val_Div_1.f) 81 eg81 a0_0 a0_1 a1_0 a1_1 r1 r2 _ val_Div_1.fn H.out).mono ?_
  rintro e w1 ⟨rfl, hb⟩
  have HB1 := Aside0.mk ((show Below w.heap.size w _ by repeat (first | apply below_alloc | exact Below.refl _ _)).trans (hb.mono (by simp; omega)))
  have D3 := Aside0.mk (blk_below B3.out hb)
  clear hb B3
  have hc0 : _ = some (Value.int .i64 0) := (blk_cell D3.out 0).trans rfl
  have hc1 : _ = some (Value.int .i64 0) := (blk_cell D3.out 1).trans rfl
  have hz0 := blk_frozen D3.out 0
  have hz1 := blk_frozen D3.out 1
  go_wp2_with fail
  refine bodyPost_ret (results_cell_row rfl _ _ (w.heap.size + 1 + 1) 25 #[.int .i64 r1, .int .i64 r2] (0, 0) _ rfl (by refine blk_put (cs := #[.int .i64 r1, .int .i64 0]) ?_ 1 _ rfl; refine blk_put (cs := #[.int .i64 0, .int .i64 0]) ?_ 0 _ rfl; exact D3.out) Try.underlying25 rfl (by kernel_rfl)) rfl ?_
  exact ⟨rfl, below_set (below_set HB1.out GE3) GE3⟩


/-! ### val_Div: function 27 -/


end Go.Proofs.Ytdegbnjnbpjdfaa.F
