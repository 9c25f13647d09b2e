/- Go functions of this claim as Lean functions, and that each call comes to what its Lean function says; written for this claim by a program of this session (mkprint.py, over the kit's printer). Conditions: those in each theorem. -/
import Derived.Test.YtdegbnjnbpjdfaaU0
import Derived.Test.YtdegbnjnbpjdfaaU2
import Derived.Test.YtdegbnjnbpjdfaaU3
import Derived.Test.YtdegbnjnbpjdfaaU4
namespace Go.Proofs.Ytdegbnjnbpjdfaa.U
open Go.RowKit Go.Proofs.YtdegbnjnbpjdfaaW.PrintWords Go.Proofs.YtdegbnjnbpjdfaaW.PrintLast Go.Proofs.YtdegbnjnbpjdfaaW.PrintMore
attribute [local go_sem] max2_int min2_int max_two min_two max_three min_three max_four min_four   -- for this text's walks alone
set_option linter.unusedVariables false
set_option linter.unusedSimpArgs false

/-! ### roadbookref01_Eq: function 64 -/

def roadbookref01_Eq.f (k : Nat) (a0_0 : Int) (a0_1 : Int) (a1_0 : Int) (a1_1 : Int) : Option (Int × Int) := (roadbookref01_odd.f k [⟨a0_0, a0_1⟩, ⟨a1_0, a1_1⟩]).bind fun bt => if bt.2.2 = true then some (bt.1, bt.2.1) else roadbookref01_one.f (a0_1 == a1_1)
theorem roadbookref01_Eq.mono : ∀ a0 a1 a2 a3 k, LeO (roadbookref01_Eq.f k a0 a1 a2 a3) (roadbookref01_Eq.f (k + 1) a0 a1 a2 a3) := by
  intro a0 a1 a2 a3 k
  exact LeO.bind (roadbookref01_odd.mono _ _) (fun _ => LeO.refl _)

set_option maxHeartbeats 1600000 in
set_option maxRecDepth 100000 in
theorem roadbookref01_Eq.calls (k : Nat) (a0_0 : Int) (a0_1 : Int) (a1_0 : Int) (a1_1 : Int) (r1 : Int) (r2 : Int) (w : World) (h : roadbookref01_Eq.f k a0_0 a0_1 a1_0 a1_1 = some (r1, r2)) :
    Calls Try.prog 64 #[.agg #[.int .i64 a0_0, .int .i64 a0_1], .agg #[.int .i64 a1_0, .int .i64 a1_1]] w fun e w' => e = .returned (.agg #[.int .i64 r1, .int .i64 r2]) ∧ Below w.heap.size w w' := by
  unfold roadbookref01_Eq.f at h
  obtain ⟨⟨o1, o2, o3⟩, ho, h⟩ := Option.bind_eq_some_iff.1 h
  have HO := Aside0.mk ho
  have H := Aside0.mk h
  clear ho h
  have hu25 := Try.underlying25
  have n1 := Aside0.mk (blk_alloc (blk_alloc (blk_new w (.cells #[.int .i64 a0_0, .int .i64 a0_1] 25 (0, 0))) (.cells #[.int .i64 a1_0, .int .i64 a1_1] 25 (0, 0))) (.cells #[.int .i64 0, .int .i64 0] 25 (0, 0)))
  have n2 := blk_alloc (blk_new (w.alloc (.cells #[.int .i64 a0_0, .int .i64 a0_1] 25 (0, 0))) (.cells #[.int .i64 a1_0, .int .i64 a1_1] 25 (0, 0))) (.cells #[.int .i64 0, .int .i64 0] 25 (0, 0))
  have n3 := blk_new ((w.alloc (.cells #[.int .i64 a0_0, .int .i64 a0_1] 25 (0, 0))).alloc (.cells #[.int .i64 a1_0, .int .i64 a1_1] 25 (0, 0))) (.cells #[.int .i64 0, .int .i64 0] 25 (0, 0))
  simp only [World.size_alloc] at n2 n3
  replace n2 := Aside0.mk n2
  replace n3 := Aside0.mk n3
  have GE3 : w.heap.size ≤ w.heap.size + 1 + 1 := by omega
  go_enter Try.func64, Try.ntmps64
  go_wp2_with fail
  refine (roadbookref01_two.calls a0_0 a0_1 a1_0 a1_1 _ _ rfl).mono ?_
  rintro e w1 ⟨v0, rfl, hR, hb⟩
  obtain ⟨A, c, rfl⟩ := Kd.R_slice hR
  have hC := Aside0.mk (Kd.R_reads' hR).2
  have HB1 := Aside0.mk ((show Below w.heap.size w _ by repeat (first | apply below_alloc | exact Below.refl _ _)).trans (hb.mono (by simp; omega)))
  have B1 := Aside0.mk (blk_below n1.out hb)
  have B2 := Aside0.mk (blk_below n2.out hb)
  have B3 := Aside0.mk (blk_below n3.out hb)
  clear n1 n2 n3 hb hR
  go_wp2_with fail
  refine (roadbookref01_odd.calls k _ c [⟨a0_0, a0_1⟩, ⟨a1_0, a1_1⟩] o1 o2 o3 _ hC.out.2 hC.out.1 HO.out).mono ?_
  rintro e w2 ⟨rfl, hb⟩
  have C1 := Aside0.mk (blk_below B1.out hb)
  have C2 := Aside0.mk (blk_below B2.out hb)
  have C3 := Aside0.mk (blk_below B3.out hb)
  have HB2 := Aside0.mk (HB1.out.trans (hb.mono HB1.out.size))
  have LT := blk_lt C3.out
  clear hb B1 B2 B3 HB1 HO hC
  have hne1 : w.heap.size ≠ w2.heap.size := by omega
  have hne2 : w.heap.size + 1 ≠ w2.heap.size := by omega
  have hne3 : w.heap.size + 1 + 1 ≠ w2.heap.size := by omega
  have hc0 : _ = some (Value.int .i64 0) := (blk_cell C3.out 0).trans rfl
  have hc1 : _ = some (Value.int .i64 0) := (blk_cell C3.out 1).trans rfl
  have hz0 := blk_frozen C3.out 0
  have hz1 := blk_frozen C3.out 1
  cases o3 with
  | true =>
    have h := H.out
    simp only [if_true, Option.some.injEq, Prod.mk.injEq] at h
    obtain ⟨rfl, rfl⟩ := h
    clear H
    go_wp2_with fail
    refine bodyPost_ret (results_cell_row rfl _ _ (w.heap.size + 1 + 1) 25 #[.int .i64 o1, .int .i64 o2] (0, 0) _ rfl (by refine blk_alloc ?_ _; refine blk_put (cs := #[.int .i64 o1, .int .i64 0]) ?_ 1 _ rfl; refine blk_put (cs := #[.int .i64 0, .int .i64 0]) ?_ 0 _ rfl; exact C3.out) Try.underlying25 rfl (by kernel_rfl)) rfl ?_
    exact ⟨rfl, below_alloc' (below_set (below_set HB2.out GE3) GE3) _⟩
  | false =>
    have ha1 : ∀ o, (w2.alloc o).cell? ⟨w.heap.size, 1, none⟩ = some (Value.int .i64 a0_1) := fun o => (blk_cell (blk_alloc C1.out o) 1).trans rfl
    have hb1 : ∀ o, (w2.alloc o).cell? ⟨w.heap.size + 1, 1, none⟩ = some (Value.int .i64 a1_1) := fun o => (blk_cell (blk_alloc C2.out o) 1).trans rfl
    have h := H.out
    simp only [Bool.false_eq_true, if_false] at h
    replace H := Aside0.mk h
    clear h
    go_wp2_with fail
    refine (roadbookref01_one.calls _ r1 r2 _ H.out).mono ?_
    rintro e w3 ⟨rfl, hb⟩
    have D3 := Aside0.mk (blk_below (blk_alloc C3.out _) hb)
    have HB3 := Aside0.mk ((below_alloc' HB2.out _).trans (hb.mono (by have := HB2.out.size; simp; omega)))
    clear hb ha1 hb1 hc0 hc1 hz0 hz1
    have hd0 : _ = some (Value.int .i64 0) := (blk_cell D3.out 0).trans rfl
    have hd1 : _ = some (Value.int .i64 0) := (blk_cell D3.out 1).trans rfl
    have hy0 := blk_frozen D3.out 0
    have hy1 := blk_frozen D3.out 1
    go_wp2_with fail
    refine bodyPost_ret (results_cell_row rfl _ _ (w.heap.size + 1 + 1) 25 #[.int .i64 r1, .int .i64 r2] (0, 0) _ rfl (by refine blk_put (cs := #[.int .i64 r1, .int .i64 0]) ?_ 1 _ rfl; refine blk_put (cs := #[.int .i64 0, .int .i64 0]) ?_ 0 _ rfl; exact D3.out) Try.underlying25 rfl (by kernel_rfl)) rfl ?_
    exact ⟨rfl, below_set (below_set HB3.out GE3) GE3⟩

def roadbookref01_Lt.f (k : Nat) (a0_0 : Int) (a0_1 : Int) (a1_0 : Int) (a1_1 : Int) : Option (Int × Int) := (roadbookref01_odd.f k [⟨a0_0, a0_1⟩, ⟨a1_0, a1_1⟩]).bind fun bt => if bt.2.2 = true then some (bt.1, bt.2.1) else roadbookref01_one.f (decide (a0_1 < a1_1))
theorem roadbookref01_Lt.mono : ∀ a0 a1 a2 a3 k, LeO (roadbookref01_Lt.f k a0 a1 a2 a3) (roadbookref01_Lt.f (k + 1) a0 a1 a2 a3) := by
  intro a0 a1 a2 a3 k
  exact LeO.bind (roadbookref01_odd.mono _ _) (fun _ => LeO.refl _)

set_option maxHeartbeats 1600000 in
set_option maxRecDepth 100000 in
theorem roadbookref01_Lt.calls (k : Nat) (a0_0 : Int) (a0_1 : Int) (a1_0 : Int) (a1_1 : Int) (r1 : Int) (r2 : Int) (w : World) (h : roadbookref01_Lt.f k a0_0 a0_1 a1_0 a1_1 = some (r1, r2)) :
    Calls Try.prog 65 #[.agg #[.int .i64 a0_0, .int .i64 a0_1], .agg #[.int .i64 a1_0, .int .i64 a1_1]] w fun e w' => e = .returned (.agg #[.int .i64 r1, .int .i64 r2]) ∧ Below w.heap.size w w' := by
  unfold roadbookref01_Lt.f at h
  obtain ⟨⟨o1, o2, o3⟩, ho, h⟩ := Option.bind_eq_some_iff.1 h
  have HO := Aside0.mk ho
  have H := Aside0.mk h
  clear ho h
  have hu25 := Try.underlying25
  have n1 := Aside0.mk (blk_alloc (blk_alloc (blk_new w (.cells #[.int .i64 a0_0, .int .i64 a0_1] 25 (0, 0))) (.cells #[.int .i64 a1_0, .int .i64 a1_1] 25 (0, 0))) (.cells #[.int .i64 0, .int .i64 0] 25 (0, 0)))
  have n2 := blk_alloc (blk_new (w.alloc (.cells #[.int .i64 a0_0, .int .i64 a0_1] 25 (0, 0))) (.cells #[.int .i64 a1_0, .int .i64 a1_1] 25 (0, 0))) (.cells #[.int .i64 0, .int .i64 0] 25 (0, 0))
  have n3 := blk_new ((w.alloc (.cells #[.int .i64 a0_0, .int .i64 a0_1] 25 (0, 0))).alloc (.cells #[.int .i64 a1_0, .int .i64 a1_1] 25 (0, 0))) (.cells #[.int .i64 0, .int .i64 0] 25 (0, 0))
  simp only [World.size_alloc] at n2 n3
  replace n2 := Aside0.mk n2
  replace n3 := Aside0.mk n3
  have GE3 : w.heap.size ≤ w.heap.size + 1 + 1 := by omega
  go_enter Try.func65, Try.ntmps65
  go_wp2_with fail
  refine (roadbookref01_two.calls a0_0 a0_1 a1_0 a1_1 _ _ rfl).mono ?_
  rintro e w1 ⟨v0, rfl, hR, hb⟩
  obtain ⟨A, c, rfl⟩ := Kd.R_slice hR
  have hC := Aside0.mk (Kd.R_reads' hR).2
  have HB1 := Aside0.mk ((show Below w.heap.size w _ by repeat (first | apply below_alloc | exact Below.refl _ _)).trans (hb.mono (by simp; omega)))
  have B1 := Aside0.mk (blk_below n1.out hb)
  have B2 := Aside0.mk (blk_below n2.out hb)
  have B3 := Aside0.mk (blk_below n3.out hb)
  clear n1 n2 n3 hb hR
  go_wp2_with fail
  refine (roadbookref01_odd.calls k _ c [⟨a0_0, a0_1⟩, ⟨a1_0, a1_1⟩] o1 o2 o3 _ hC.out.2 hC.out.1 HO.out).mono ?_
  rintro e w2 ⟨rfl, hb⟩
  have C1 := Aside0.mk (blk_below B1.out hb)
  have C2 := Aside0.mk (blk_below B2.out hb)
  have C3 := Aside0.mk (blk_below B3.out hb)
  have HB2 := Aside0.mk (HB1.out.trans (hb.mono HB1.out.size))
  have LT := blk_lt C3.out
  clear hb B1 B2 B3 HB1 HO hC
  have hne1 : w.heap.size ≠ w2.heap.size := by omega
  have hne2 : w.heap.size + 1 ≠ w2.heap.size := by omega
  have hne3 : w.heap.size + 1 + 1 ≠ w2.heap.size := by omega
  have hc0 : _ = some (Value.int .i64 0) := (blk_cell C3.out 0).trans rfl
  have hc1 : _ = some (Value.int .i64 0) := (blk_cell C3.out 1).trans rfl
  have hz0 := blk_frozen C3.out 0
  have hz1 := blk_frozen C3.out 1
  cases o3 with
  | true =>
    have h := H.out
    simp only [if_true, Option.some.injEq, Prod.mk.injEq] at h
    obtain ⟨rfl, rfl⟩ := h
    clear H
    go_wp2_with fail
    refine bodyPost_ret (results_cell_row rfl _ _ (w.heap.size + 1 + 1) 25 #[.int .i64 o1, .int .i64 o2] (0, 0) _ rfl (by refine blk_alloc ?_ _; refine blk_put (cs := #[.int .i64 o1, .int .i64 0]) ?_ 1 _ rfl; refine blk_put (cs := #[.int .i64 0, .int .i64 0]) ?_ 0 _ rfl; exact C3.out) Try.underlying25 rfl (by kernel_rfl)) rfl ?_
    exact ⟨rfl, below_alloc' (below_set (below_set HB2.out GE3) GE3) _⟩
  | false =>
    have ha1 : ∀ o, (w2.alloc o).cell? ⟨w.heap.size, 1, none⟩ = some (Value.int .i64 a0_1) := fun o => (blk_cell (blk_alloc C1.out o) 1).trans rfl
    have hb1 : ∀ o, (w2.alloc o).cell? ⟨w.heap.size + 1, 1, none⟩ = some (Value.int .i64 a1_1) := fun o => (blk_cell (blk_alloc C2.out o) 1).trans rfl
    have h := H.out
    simp only [Bool.false_eq_true, if_false] at h
    replace H := Aside0.mk h
    clear h
    go_wp2_with fail
    refine (roadbookref01_one.calls _ r1 r2 _ H.out).mono ?_
    rintro e w3 ⟨rfl, hb⟩
    have D3 := Aside0.mk (blk_below (blk_alloc C3.out _) hb)
    have HB3 := Aside0.mk ((below_alloc' HB2.out _).trans (hb.mono (by have := HB2.out.size; simp; omega)))
    clear hb ha1 hb1 hc0 hc1 hz0 hz1
    have hd0 : _ = some (Value.int .i64 0) := (blk_cell D3.out 0).trans rfl
    have hd1 : _ = some (Value.int .i64 0) := (blk_cell D3.out 1).trans rfl
    have hy0 := blk_frozen D3.out 0
    have hy1 := blk_frozen D3.out 1
    go_wp2_with fail
    refine bodyPost_ret (results_cell_row rfl _ _ (w.heap.size + 1 + 1) 25 #[.int .i64 r1, .int .i64 r2] (0, 0) _ rfl (by refine blk_put (cs := #[.int .i64 r1, .int .i64 0]) ?_ 1 _ rfl; refine blk_put (cs := #[.int .i64 0, .int .i64 0]) ?_ 0 _ rfl; exact D3.out) Try.underlying25 rfl (by kernel_rfl)) rfl ?_
    exact ⟨rfl, below_set (below_set HB3.out GE3) GE3⟩


/-! ### roadbookref01_Lt: function 65 -/


end Go.Proofs.Ytdegbnjnbpjdfaa.U
