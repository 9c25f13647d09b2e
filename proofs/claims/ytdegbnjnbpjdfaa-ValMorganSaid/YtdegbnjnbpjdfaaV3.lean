/- Go functions of this claim as Lean functions, and that each call comes to what its Lean function says; written for this claim by a program of this session (mkprint.py, over the kit's printer). Conditions: those in each theorem. -/
import Derived.Test.YtdegbnjnbpjdfaaV0
import Derived.Test.YtdegbnjnbpjdfaaV1
import Derived.Test.YtdegbnjnbpjdfaaV2
namespace Go.Proofs.Ytdegbnjnbpjdfaa.V
open Go.RowKit Go.Proofs.YtdegbnjnbpjdfaaW.PrintWords Go.Proofs.YtdegbnjnbpjdfaaW.PrintLast Go.Proofs.YtdegbnjnbpjdfaaW.PrintMore
attribute [local go_sem] max2_int min2_int max_two min_two max_three min_three max_four min_four   -- for this text's walks alone
set_option linter.unusedVariables false
set_option linter.unusedSimpArgs false

attribute [local go_sem high] eqA25
/-! ### roadbooklaw01_awake: function 17 -/
def roadbooklaw01_awake.f  : Option (Bool) := (val_Of.f 3).bind fun bt118 => ((val_Of.f 0).bind fun bt120 => ((val_Div.f bt118.1 bt118.2 bt120.1 bt120.2).bind fun bt122 => (if (bt122.1 == 2 && (bt122.2 == 0)) = true then ((val_Of.f 0).bind fun bt124 => ((val_And.f (([(⟨1, 0⟩ : S25), (⟨bt124.1, bt124.2⟩ : S25)] : List (S25)))).bind fun bt129 => (if (bt129.1 == 0 && (bt129.2 == 0)) = true then ((val_Of.f 2).bind fun bt131 => ((val_Of.f 3).bind fun bt133 => ((val_Add.f bt131.1 bt131.2 bt133.1 bt133.2).bind fun bt135 => ((val_Of.f 5).bind fun bt137 => (if (bt135.1 == bt137.1 && (bt135.2 == bt137.2)) = true then ((val_Of.f 5).bind fun bt139 => (some (bt139.2 == 5))) else (some false)))))) else (some false)))) else (some false))))
set_option maxHeartbeats 8000000 in
set_option maxRecDepth 100000 in
theorem roadbooklaw01_awake.calls  (r : Bool) (w : World) (h : roadbooklaw01_awake.f  = some r) :
    Calls Try.prog 17 #[] w fun e w' => e = .returned (.bool r) ∧ Below w.heap.size w w' := by
  have hu25 := Try.underlying25
  have hfd25_1 : ∀ (v0 v1 : Value) (W : World), Sem.run Try.prog (Instr.field 25 (.agg #[v0, v1]) 1) W = .ok (v1) W := fun _ _ _ => rfl
  have HB := Aside0.mk (Below.refl w.heap.size w)
  have H : ((val_Of.f 3).bind fun bt118 => ((val_Of.f 0).bind fun bt120 => ((val_Div.f bt118.1 bt118.2 bt120.1 bt120.2).bind fun bt122 => (if (bt122.1 == 2 && (bt122.2 == 0)) = true then ((val_Of.f 0).bind fun bt124 => ((val_And.f (([(⟨1, 0⟩ : S25), (⟨bt124.1, bt124.2⟩ : S25)] : List (S25)))).bind fun bt129 => (if (bt129.1 == 0 && (bt129.2 == 0)) = true then ((val_Of.f 2).bind fun bt131 => ((val_Of.f 3).bind fun bt133 => ((val_Add.f bt131.1 bt131.2 bt133.1 bt133.2).bind fun bt135 => ((val_Of.f 5).bind fun bt137 => (if (bt135.1 == bt137.1 && (bt135.2 == bt137.2)) = true then ((val_Of.f 5).bind fun bt139 => (some (bt139.2 == 5))) else (some false)))))) else (some false)))) else (some false))))) = some r := h
  clear h
  replace H := Option.bind_eq_some_iff.mp H
  obtain ⟨⟨t118, t119⟩, A10, H⟩ := H
  replace H : ((val_Of.f 0).bind fun bt120 => ((val_Div.f t118 t119 bt120.1 bt120.2).bind fun bt122 => (if (bt122.1 == 2 && (bt122.2 == 0)) = true then ((val_Of.f 0).bind fun bt124 => ((val_And.f (([(⟨1, 0⟩ : S25), (⟨bt124.1, bt124.2⟩ : S25)] : List (S25)))).bind fun bt129 => (if (bt129.1 == 0 && (bt129.2 == 0)) = true then ((val_Of.f 2).bind fun bt131 => ((val_Of.f 3).bind fun bt133 => ((val_Add.f bt131.1 bt131.2 bt133.1 bt133.2).bind fun bt135 => ((val_Of.f 5).bind fun bt137 => (if (bt135.1 == bt137.1 && (bt135.2 == bt137.2)) = true then ((val_Of.f 5).bind fun bt139 => (some (bt139.2 == 5))) else (some false)))))) else (some false)))) else (some false)))) = some r := H
  have A1 := Aside0.mk A10
  clear A10
  replace H := Option.bind_eq_some_iff.mp H
  obtain ⟨⟨t120, t121⟩, A20, H⟩ := H
  replace H : ((val_Div.f t118 t119 t120 t121).bind fun bt122 => (if (bt122.1 == 2 && (bt122.2 == 0)) = true then ((val_Of.f 0).bind fun bt124 => ((val_And.f (([(⟨1, 0⟩ : S25), (⟨bt124.1, bt124.2⟩ : S25)] : List (S25)))).bind fun bt129 => (if (bt129.1 == 0 && (bt129.2 == 0)) = true then ((val_Of.f 2).bind fun bt131 => ((val_Of.f 3).bind fun bt133 => ((val_Add.f bt131.1 bt131.2 bt133.1 bt133.2).bind fun bt135 => ((val_Of.f 5).bind fun bt137 => (if (bt135.1 == bt137.1 && (bt135.2 == bt137.2)) = true then ((val_Of.f 5).bind fun bt139 => (some (bt139.2 == 5))) else (some false)))))) else (some false)))) else (some false))) = some r := H
  have A2 := Aside0.mk A20
  clear A20
  replace H := Option.bind_eq_some_iff.mp H
  obtain ⟨⟨t122, t123⟩, A30, H⟩ := H
  replace H : (if (t122 == 2 && (t123 == 0)) = true then ((val_Of.f 0).bind fun bt124 => ((val_And.f (([(⟨1, 0⟩ : S25), (⟨bt124.1, bt124.2⟩ : S25)] : List (S25)))).bind fun bt129 => (if (bt129.1 == 0 && (bt129.2 == 0)) = true then ((val_Of.f 2).bind fun bt131 => ((val_Of.f 3).bind fun bt133 => ((val_Add.f bt131.1 bt131.2 bt133.1 bt133.2).bind fun bt135 => ((val_Of.f 5).bind fun bt137 => (if (bt135.1 == bt137.1 && (bt135.2 == bt137.2)) = true then ((val_Of.f 5).bind fun bt139 => (some (bt139.2 == 5))) else (some false)))))) else (some false)))) else (some false)) = some r := H
  have A3 := Aside0.mk A30
  clear A30
  by_cases c4 : (t122 == 2 && (t123 == 0)) = true
  · rw [if_pos c4] at H
    have c4b0 : (t122 == 2 && (t123 == 0)) = true := c4
    (try (have c4b1 : decide (t122 = 2 && (t123 == 0)) = true := by simpa using c4))
    (try (have c4b2 : (t122 == 2 && (t123 == 0)) = true := by simpa using c4))
    clear c4
    replace H := Option.bind_eq_some_iff.mp H
    obtain ⟨⟨t124, t125⟩, A50, H⟩ := H
    replace H : ((val_And.f (([(⟨1, 0⟩ : S25), (⟨t124, t125⟩ : S25)] : List (S25)))).bind fun bt129 => (if (bt129.1 == 0 && (bt129.2 == 0)) = true then ((val_Of.f 2).bind fun bt131 => ((val_Of.f 3).bind fun bt133 => ((val_Add.f bt131.1 bt131.2 bt133.1 bt133.2).bind fun bt135 => ((val_Of.f 5).bind fun bt137 => (if (bt135.1 == bt137.1 && (bt135.2 == bt137.2)) = true then ((val_Of.f 5).bind fun bt139 => (some (bt139.2 == 5))) else (some false)))))) else (some false))) = some r := H
    have A5 := Aside0.mk A50
    clear A50
    obtain ⟨y126, hy126⟩ : ∃ y_ : List (S25), y_ = (([(⟨1, 0⟩ : S25), (⟨t124, t125⟩ : S25)] : List (S25))) := ⟨_, rfl⟩
    replace H : ((val_And.f y126).bind fun bt129 => (if (bt129.1 == 0 && (bt129.2 == 0)) = true then ((val_Of.f 2).bind fun bt131 => ((val_Of.f 3).bind fun bt133 => ((val_Add.f bt131.1 bt131.2 bt133.1 bt133.2).bind fun bt135 => ((val_Of.f 5).bind fun bt137 => (if (bt135.1 == bt137.1 && (bt135.2 == bt137.2)) = true then ((val_Of.f 5).bind fun bt139 => (some (bt139.2 == 5))) else (some false)))))) else (some false))) = some r := by first | (rw [hy126]; with_reducible exact H) | (have H2_ := (Option.bind_some _ _).symm.trans H; rw [hy126]; with_reducible exact H2_) | (have H2_ := (Option.bind_some _ _).symm.trans H; with_reducible exact H2_) | with_reducible exact H | (rw [hy126]; exact H) | exact H
    have Ny126 := Aside0.mk hy126
    clear hy126
    replace H := Option.bind_eq_some_iff.mp H
    obtain ⟨⟨t129, t130⟩, A60, H⟩ := H
    replace H : (if (t129 == 0 && (t130 == 0)) = true then ((val_Of.f 2).bind fun bt131 => ((val_Of.f 3).bind fun bt133 => ((val_Add.f bt131.1 bt131.2 bt133.1 bt133.2).bind fun bt135 => ((val_Of.f 5).bind fun bt137 => (if (bt135.1 == bt137.1 && (bt135.2 == bt137.2)) = true then ((val_Of.f 5).bind fun bt139 => (some (bt139.2 == 5))) else (some false)))))) else (some false)) = some r := H
    have A6 := Aside0.mk A60
    clear A60
    by_cases c7 : (t129 == 0 && (t130 == 0)) = true
    · rw [if_pos c7] at H
      have c7b0 : (t129 == 0 && (t130 == 0)) = true := c7
      (try (have c7b1 : decide (t129 = 0 && (t130 == 0)) = true := by simpa using c7))
      (try (have c7b2 : (t129 == 0 && (t130 == 0)) = true := by simpa using c7))
      clear c7
      replace H := Option.bind_eq_some_iff.mp H
      obtain ⟨⟨t131, t132⟩, A80, H⟩ := H
      replace H : ((val_Of.f 3).bind fun bt133 => ((val_Add.f t131 t132 bt133.1 bt133.2).bind fun bt135 => ((val_Of.f 5).bind fun bt137 => (if (bt135.1 == bt137.1 && (bt135.2 == bt137.2)) = true then ((val_Of.f 5).bind fun bt139 => (some (bt139.2 == 5))) else (some false))))) = some r := H
      have A8 := Aside0.mk A80
      clear A80
      replace H := Option.bind_eq_some_iff.mp H
      obtain ⟨⟨t133, t134⟩, A90, H⟩ := H
      replace H : ((val_Add.f t131 t132 t133 t134).bind fun bt135 => ((val_Of.f 5).bind fun bt137 => (if (bt135.1 == bt137.1 && (bt135.2 == bt137.2)) = true then ((val_Of.f 5).bind fun bt139 => (some (bt139.2 == 5))) else (some false)))) = some r := H
      have A9 := Aside0.mk A90
      clear A90
      replace H := Option.bind_eq_some_iff.mp H
      obtain ⟨⟨t135, t136⟩, A100, H⟩ := H
      replace H : ((val_Of.f 5).bind fun bt137 => (if (t135 == bt137.1 && (t136 == bt137.2)) = true then ((val_Of.f 5).bind fun bt139 => (some (bt139.2 == 5))) else (some false))) = some r := H
      have A10 := Aside0.mk A100
      clear A100
      replace H := Option.bind_eq_some_iff.mp H
      obtain ⟨⟨t137, t138⟩, A110, H⟩ := H
      replace H : (if (t135 == t137 && (t136 == t138)) = true then ((val_Of.f 5).bind fun bt139 => (some (bt139.2 == 5))) else (some false)) = some r := H
      have A11 := Aside0.mk A110
      clear A110
      by_cases c12 : (t135 == t137 && (t136 == t138)) = true
      · rw [if_pos c12] at H
        have c12b0 : (t135 == t137 && (t136 == t138)) = true := c12
        (try (have c12b1 : decide (t135 = t137 && (t136 == t138)) = true := by simpa using c12))
        (try (have c12b2 : (t135 == t137 && (t136 == t138)) = true := by simpa using c12))
        clear c12
        replace H := Option.bind_eq_some_iff.mp H
        obtain ⟨⟨t139, t140⟩, A130, H⟩ := H
        replace H : (some (t140 == 5)) = some r := H
        have A13 := Aside0.mk A130
        clear A130
        obtain rfl := Option.some.inj H
        go_enter Try.func17, Try.ntmps17
        go_wp2_with (first | ((with_reducible refine gate_callee (f := 21) rfl ?_); refine goesL_ (some 1) rfl rfl Try.func21 (by kernel_rfl) rfl #[.int .i64 3] rfl (by (try simp only [List.map_toArray, List.map_cons, List.map_nil]); first | done | rfl | (simp only [List.length_drop, List.length_take]; rfl)) ?_; (with_reducible refine (val_Of.calls 3 t118 t119 _ A1.out).mono ?_); rintro e w14 ⟨rfl, hb⟩; refine ⟨_, rfl, ?_⟩; have n0_ := Aside0.mk (below_step (by repeat (first | (with_reducible first | exact HB.out | apply below_alloc | apply pw_below_drewN | apply below_drew1) | exact HB.out)) hb); clear HB; have HB := n0_; clear n0_; (try clear hb); (try clear hb2); (try clear hk); (try clear hi)) | ((with_reducible refine gate_callee (f := 21) rfl ?_); refine goesL_ (some 2) rfl rfl Try.func21 (by kernel_rfl) rfl #[.int .i64 0] rfl (by (try simp only [List.map_toArray, List.map_cons, List.map_nil]); first | done | rfl | (simp only [List.length_drop, List.length_take]; rfl)) ?_; (with_reducible refine (val_Of.calls 0 t120 t121 _ A2.out).mono ?_); rintro e w15 ⟨rfl, hb⟩; refine ⟨_, rfl, ?_⟩; have n0_ := Aside0.mk (below_step (by repeat (first | (with_reducible first | exact HB.out | apply below_alloc | apply pw_below_drewN | apply below_drew1) | exact HB.out)) hb); clear HB; have HB := n0_; clear n0_; (try clear hb); (try clear hb2); (try clear hk); (try clear hi)) | ((with_reducible refine gate_callee (f := 27) rfl ?_); refine goesL_ (some 3) rfl rfl Try.func27 (by kernel_rfl) rfl #[.agg #[.int .i64 t118, .int .i64 t119], .agg #[.int .i64 t120, .int .i64 t121]] rfl (by (try simp only [List.map_toArray, List.map_cons, List.map_nil]); first | done | rfl | (simp only [List.length_drop, List.length_take]; rfl)) ?_; (with_reducible refine (val_Div.calls t118 t119 t120 t121 t122 t123 _ A3.out).mono ?_); rintro e w16 ⟨rfl, hb⟩; refine ⟨_, rfl, ?_⟩; have n0_ := Aside0.mk (below_step (by repeat (first | (with_reducible first | exact HB.out | apply below_alloc | apply pw_below_drewN | apply below_drew1) | exact HB.out)) hb); clear HB; have HB := n0_; clear n0_; (try clear hb); (try clear hb2); (try clear hk); (try clear hi)) | (go_at_call 21; (with_reducible refine (val_Of.calls 0 t124 t125 _ A5.out).mono ?_); rintro e w17 ⟨rfl, hb⟩; have n0_ := Aside0.mk (below_step (by repeat (first | (with_reducible first | exact HB.out | apply below_alloc | apply pw_below_drewN | apply below_drew1) | exact HB.out)) hb); clear HB; have HB := n0_; clear n0_; (try clear hb); (try clear hb2); (try clear hk); (try clear hi)) | ((with_reducible refine gate_dst (N := 9) rfl ?_); (try (refine gate_guard (by rfl) ?_; dsimp only)); refine Kd.R_lit k25 _ 25 ?hg (N := 9) ?hd (xs := ([(⟨1, 0⟩ : S25), (⟨t124, t125⟩ : S25)] : List (S25))) (inner := [.int .i64 1, .int .i64 0, .int .i64 t124, .int .i64 t125]) (ok := fun _ => True) (okp := fun _ => True) ?hr ?hp (fun _ hk => hk) trivial (Below.refl _ _) (Nat.le_refl _) (by simp) ?_; (case hd => rfl); (case hg => rfl); (case hr => first | (go_simp; done) | (go_simp; rfl)); (case hp => exact (Reps.c2 (show Kd.M k25 _ _ _ (⟨1, 0⟩ : S25) [.int .i64 1, .int .i64 0] from (k25_mkM _ _ _ (⟨1, 0⟩ : S25) )) (Reps.c2 (show Kd.M k25 _ _ _ (⟨t124, t125⟩ : S25) [.int .i64 t124, .int .i64 t125] from (k25_mkM _ _ _ (⟨t124, t125⟩ : S25) )) (Reps.none _ _)))); intro v127 w18 ho19 hb hg_ hnew_; clear hg_ hnew_; (first | rw [← Ny126.out] at ho19 | (simp only [Int.reduceToNat] at ho19; rw [← Ny126.out] at ho19)); have n0_ := Aside0.mk (Kd.R_lower ho19 (below_size (by repeat (first | (with_reducible first | exact HB.out | apply below_alloc | apply pw_below_drewN | apply below_drew1) | exact HB.out)))); have n1_ := Aside0.mk (below_step (by repeat (first | (with_reducible first | exact HB.out | apply below_alloc | apply pw_below_drewN | apply below_drew1) | exact HB.out)) hb); clear HB; have HO128 := n0_; have HB := n1_; clear n0_ n1_; clear hb ho19; obtain ⟨Ao20, co20, eo20⟩ := Kd.R_slice HO128.out; subst eo20) | (go_at_call 19; (with_reducible refine (val_And.calls _ _ y126 t129 t130 _ ?side1 ?side2 A6.out).mono ?_); (case side1 => repeat (first | exact (Kd.R_reads' HO128.out).2.2 | (with_reducible refine Kd.C_alloc ?_ _) | (with_reducible refine Kd.C_drewN ?_ _) | (with_reducible refine Kd.C_drew ?_))); (case side2 => exact (Kd.R_reads' HO128.out).2.1); rintro e w21 ⟨rfl, hb⟩; have n0_ := Aside0.mk (Kd.R_below (by (with_reducible repeat (first | apply Kd.R_alloc | apply Kd.R_drewN | apply Kd.R_drew)); exact HO128.out) hb); have n1_ := Aside0.mk (below_step (by repeat (first | (with_reducible first | exact HB.out | apply below_alloc | apply pw_below_drewN | apply below_drew1) | exact HB.out)) hb); clear HO128; clear HB; have HO128 := n0_; have HB := n1_; clear n0_ n1_; (try clear hb); (try clear hb2); (try clear hk); (try clear hi)) | (go_at_call 21; (with_reducible refine (val_Of.calls 2 t131 t132 _ A8.out).mono ?_); rintro e w22 ⟨rfl, hb⟩; have n0_ := Aside0.mk (Kd.R_below (by (with_reducible repeat (first | apply Kd.R_alloc | apply Kd.R_drewN | apply Kd.R_drew)); exact HO128.out) hb); have n1_ := Aside0.mk (below_step (by repeat (first | (with_reducible first | exact HB.out | apply below_alloc | apply pw_below_drewN | apply below_drew1) | exact HB.out)) hb); clear HO128; clear HB; have HO128 := n0_; have HB := n1_; clear n0_ n1_; (try clear hb); (try clear hb2); (try clear hk); (try clear hi)) | (go_at_call 21; (with_reducible refine (val_Of.calls 3 t133 t134 _ A9.out).mono ?_); rintro e w23 ⟨rfl, hb⟩; have n0_ := Aside0.mk (Kd.R_below (by (with_reducible repeat (first | apply Kd.R_alloc | apply Kd.R_drewN | apply Kd.R_drew)); exact HO128.out) hb); have n1_ := Aside0.mk (below_step (by repeat (first | (with_reducible first | exact HB.out | apply below_alloc | apply pw_below_drewN | apply below_drew1) | exact HB.out)) hb); clear HO128; clear HB; have HO128 := n0_; have HB := n1_; clear n0_ n1_; (try clear hb); (try clear hb2); (try clear hk); (try clear hi)) | (go_at_call 22; (with_reducible refine (val_Add.calls t131 t132 t133 t134 t135 t136 _ A10.out).mono ?_); rintro e w24 ⟨rfl, hb⟩; have n0_ := Aside0.mk (Kd.R_below (by (with_reducible repeat (first | apply Kd.R_alloc | apply Kd.R_drewN | apply Kd.R_drew)); exact HO128.out) hb); have n1_ := Aside0.mk (below_step (by repeat (first | (with_reducible first | exact HB.out | apply below_alloc | apply pw_below_drewN | apply below_drew1) | exact HB.out)) hb); clear HO128; clear HB; have HO128 := n0_; have HB := n1_; clear n0_ n1_; (try clear hb); (try clear hb2); (try clear hk); (try clear hi)) | (go_at_call 21; (with_reducible refine (val_Of.calls 5 t137 t138 _ A11.out).mono ?_); rintro e w25 ⟨rfl, hb⟩; have n0_ := Aside0.mk (Kd.R_below (by (with_reducible repeat (first | apply Kd.R_alloc | apply Kd.R_drewN | apply Kd.R_drew)); exact HO128.out) hb); have n1_ := Aside0.mk (below_step (by repeat (first | (with_reducible first | exact HB.out | apply below_alloc | apply pw_below_drewN | apply below_drew1) | exact HB.out)) hb); clear HO128; clear HB; have HO128 := n0_; have HB := n1_; clear n0_ n1_; (try clear hb); (try clear hb2); (try clear hk); (try clear hi)) | (go_at_call 21; (with_reducible refine (val_Of.calls 5 t139 t140 _ A13.out).mono ?_); rintro e w26 ⟨rfl, hb⟩; have n0_ := Aside0.mk (Kd.R_below (by (with_reducible repeat (first | apply Kd.R_alloc | apply Kd.R_drewN | apply Kd.R_drew)); exact HO128.out) hb); have n1_ := Aside0.mk (below_step (by repeat (first | (with_reducible first | exact HB.out | apply below_alloc | apply pw_below_drewN | apply below_drew1) | exact HB.out)) hb); clear HO128; clear HB; have HO128 := n0_; have HB := n1_; clear n0_ n1_; (try clear hb); (try clear hb2); (try clear hk); (try clear hi)))
        go_ret
        exact ⟨by first | rfl | (simp [errW_none, errW_some] <;> rfl) | (simp [*, errW_none, errW_some] <;> rfl) | (clear HB; simp only [aside0_iff] at *; simp_all; done), by repeat (first | (with_reducible first | exact HB.out | apply below_alloc | apply pw_below_drewN | apply below_drew1) | exact HB.out)⟩
      · rw [if_neg c12] at H
        have c12b0 : (t135 == t137 && (t136 == t138)) = false := by simpa using c12
        (try (have c12b1 : decide (t135 = t137 && (t136 == t138)) = false := by simpa using c12))
        (try (have c12b2 : (t135 == t137 && (t136 == t138)) = false := by simpa using c12))
        (try (have c12b3 : ¬ (t135 = t137 && (t136 == t138)) := by simpa using c12))
        clear c12
        obtain rfl := Option.some.inj H
        go_enter Try.func17, Try.ntmps17
        go_wp2_with (first | ((with_reducible refine gate_callee (f := 21) rfl ?_); refine goesL_ (some 1) rfl rfl Try.func21 (by kernel_rfl) rfl #[.int .i64 3] rfl (by (try simp only [List.map_toArray, List.map_cons, List.map_nil]); first | done | rfl | (simp only [List.length_drop, List.length_take]; rfl)) ?_; (with_reducible refine (val_Of.calls 3 t118 t119 _ A1.out).mono ?_); rintro e w27 ⟨rfl, hb⟩; refine ⟨_, rfl, ?_⟩; have n0_ := Aside0.mk (below_step (by repeat (first | (with_reducible first | exact HB.out | apply below_alloc | apply pw_below_drewN | apply below_drew1) | exact HB.out)) hb); clear HB; have HB := n0_; clear n0_; (try clear hb); (try clear hb2); (try clear hk); (try clear hi)) | ((with_reducible refine gate_callee (f := 21) rfl ?_); refine goesL_ (some 2) rfl rfl Try.func21 (by kernel_rfl) rfl #[.int .i64 0] rfl (by (try simp only [List.map_toArray, List.map_cons, List.map_nil]); first | done | rfl | (simp only [List.length_drop, List.length_take]; rfl)) ?_; (with_reducible refine (val_Of.calls 0 t120 t121 _ A2.out).mono ?_); rintro e w28 ⟨rfl, hb⟩; refine ⟨_, rfl, ?_⟩; have n0_ := Aside0.mk (below_step (by repeat (first | (with_reducible first | exact HB.out | apply below_alloc | apply pw_below_drewN | apply below_drew1) | exact HB.out)) hb); clear HB; have HB := n0_; clear n0_; (try clear hb); (try clear hb2); (try clear hk); (try clear hi)) | ((with_reducible refine gate_callee (f := 27) rfl ?_); refine goesL_ (some 3) rfl rfl Try.func27 (by kernel_rfl) rfl #[.agg #[.int .i64 t118, .int .i64 t119], .agg #[.int .i64 t120, .int .i64 t121]] rfl (by (try simp only [List.map_toArray, List.map_cons, List.map_nil]); first | done | rfl | (simp only [List.length_drop, List.length_take]; rfl)) ?_; (with_reducible refine (val_Div.calls t118 t119 t120 t121 t122 t123 _ A3.out).mono ?_); rintro e w29 ⟨rfl, hb⟩; refine ⟨_, rfl, ?_⟩; have n0_ := Aside0.mk (below_step (by repeat (first | (with_reducible first | exact HB.out | apply below_alloc | apply pw_below_drewN | apply below_drew1) | exact HB.out)) hb); clear HB; have HB := n0_; clear n0_; (try clear hb); (try clear hb2); (try clear hk); (try clear hi)) | (go_at_call 21; (with_reducible refine (val_Of.calls 0 t124 t125 _ A5.out).mono ?_); rintro e w30 ⟨rfl, hb⟩; have n0_ := Aside0.mk (below_step (by repeat (first | (with_reducible first | exact HB.out | apply below_alloc | apply pw_below_drewN | apply below_drew1) | exact HB.out)) hb); clear HB; have HB := n0_; clear n0_; (try clear hb); (try clear hb2); (try clear hk); (try clear hi)) | ((with_reducible refine gate_dst (N := 9) rfl ?_); (try (refine gate_guard (by rfl) ?_; dsimp only)); refine Kd.R_lit k25 _ 25 ?hg (N := 9) ?hd (xs := ([(⟨1, 0⟩ : S25), (⟨t124, t125⟩ : S25)] : List (S25))) (inner := [.int .i64 1, .int .i64 0, .int .i64 t124, .int .i64 t125]) (ok := fun _ => True) (okp := fun _ => True) ?hr ?hp (fun _ hk => hk) trivial (Below.refl _ _) (Nat.le_refl _) (by simp) ?_; (case hd => rfl); (case hg => rfl); (case hr => first | (go_simp; done) | (go_simp; rfl)); (case hp => exact (Reps.c2 (show Kd.M k25 _ _ _ (⟨1, 0⟩ : S25) [.int .i64 1, .int .i64 0] from (k25_mkM _ _ _ (⟨1, 0⟩ : S25) )) (Reps.c2 (show Kd.M k25 _ _ _ (⟨t124, t125⟩ : S25) [.int .i64 t124, .int .i64 t125] from (k25_mkM _ _ _ (⟨t124, t125⟩ : S25) )) (Reps.none _ _)))); intro v127 w31 ho32 hb hg_ hnew_; clear hg_ hnew_; (first | rw [← Ny126.out] at ho32 | (simp only [Int.reduceToNat] at ho32; rw [← Ny126.out] at ho32)); have n0_ := Aside0.mk (Kd.R_lower ho32 (below_size (by repeat (first | (with_reducible first | exact HB.out | apply below_alloc | apply pw_below_drewN | apply below_drew1) | exact HB.out)))); have n1_ := Aside0.mk (below_step (by repeat (first | (with_reducible first | exact HB.out | apply below_alloc | apply pw_below_drewN | apply below_drew1) | exact HB.out)) hb); clear HB; have HO128 := n0_; have HB := n1_; clear n0_ n1_; clear hb ho32; obtain ⟨Ao33, co33, eo33⟩ := Kd.R_slice HO128.out; subst eo33) | (go_at_call 19; (with_reducible refine (val_And.calls _ _ y126 t129 t130 _ ?side1 ?side2 A6.out).mono ?_); (case side1 => repeat (first | exact (Kd.R_reads' HO128.out).2.2 | (with_reducible refine Kd.C_alloc ?_ _) | (with_reducible refine Kd.C_drewN ?_ _) | (with_reducible refine Kd.C_drew ?_))); (case side2 => exact (Kd.R_reads' HO128.out).2.1); rintro e w34 ⟨rfl, hb⟩; have n0_ := Aside0.mk (Kd.R_below (by (with_reducible repeat (first | apply Kd.R_alloc | apply Kd.R_drewN | apply Kd.R_drew)); exact HO128.out) hb); have n1_ := Aside0.mk (below_step (by repeat (first | (with_reducible first | exact HB.out | apply below_alloc | apply pw_below_drewN | apply below_drew1) | exact HB.out)) hb); clear HO128; clear HB; have HO128 := n0_; have HB := n1_; clear n0_ n1_; (try clear hb); (try clear hb2); (try clear hk); (try clear hi)) | (go_at_call 21; (with_reducible refine (val_Of.calls 2 t131 t132 _ A8.out).mono ?_); rintro e w35 ⟨rfl, hb⟩; have n0_ := Aside0.mk (Kd.R_below (by (with_reducible repeat (first | apply Kd.R_alloc | apply Kd.R_drewN | apply Kd.R_drew)); exact HO128.out) hb); have n1_ := Aside0.mk (below_step (by repeat (first | (with_reducible first | exact HB.out | apply below_alloc | apply pw_below_drewN | apply below_drew1) | exact HB.out)) hb); clear HO128; clear HB; have HO128 := n0_; have HB := n1_; clear n0_ n1_; (try clear hb); (try clear hb2); (try clear hk); (try clear hi)) | (go_at_call 21; (with_reducible refine (val_Of.calls 3 t133 t134 _ A9.out).mono ?_); rintro e w36 ⟨rfl, hb⟩; have n0_ := Aside0.mk (Kd.R_below (by (with_reducible repeat (first | apply Kd.R_alloc | apply Kd.R_drewN | apply Kd.R_drew)); exact HO128.out) hb); have n1_ := Aside0.mk (below_step (by repeat (first | (with_reducible first | exact HB.out | apply below_alloc | apply pw_below_drewN | apply below_drew1) | exact HB.out)) hb); clear HO128; clear HB; have HO128 := n0_; have HB := n1_; clear n0_ n1_; (try clear hb); (try clear hb2); (try clear hk); (try clear hi)) | (go_at_call 22; (with_reducible refine (val_Add.calls t131 t132 t133 t134 t135 t136 _ A10.out).mono ?_); rintro e w37 ⟨rfl, hb⟩; have n0_ := Aside0.mk (Kd.R_below (by (with_reducible repeat (first | apply Kd.R_alloc | apply Kd.R_drewN | apply Kd.R_drew)); exact HO128.out) hb); have n1_ := Aside0.mk (below_step (by repeat (first | (with_reducible first | exact HB.out | apply below_alloc | apply pw_below_drewN | apply below_drew1) | exact HB.out)) hb); clear HO128; clear HB; have HO128 := n0_; have HB := n1_; clear n0_ n1_; (try clear hb); (try clear hb2); (try clear hk); (try clear hi)) | (go_at_call 21; (with_reducible refine (val_Of.calls 5 t137 t138 _ A11.out).mono ?_); rintro e w38 ⟨rfl, hb⟩; have n0_ := Aside0.mk (Kd.R_below (by (with_reducible repeat (first | apply Kd.R_alloc | apply Kd.R_drewN | apply Kd.R_drew)); exact HO128.out) hb); have n1_ := Aside0.mk (below_step (by repeat (first | (with_reducible first | exact HB.out | apply below_alloc | apply pw_below_drewN | apply below_drew1) | exact HB.out)) hb); clear HO128; clear HB; have HO128 := n0_; have HB := n1_; clear n0_ n1_; (try clear hb); (try clear hb2); (try clear hk); (try clear hi)))
        go_ret
        exact ⟨by first | rfl | (simp [errW_none, errW_some] <;> rfl) | (simp [*, errW_none, errW_some] <;> rfl) | (clear HB; simp only [aside0_iff] at *; simp_all; done), by repeat (first | (with_reducible first | exact HB.out | apply below_alloc | apply pw_below_drewN | apply below_drew1) | exact HB.out)⟩
    · rw [if_neg c7] at H
      have c7b0 : (t129 == 0 && (t130 == 0)) = false := by simpa using c7
      (try (have c7b1 : decide (t129 = 0 && (t130 == 0)) = false := by simpa using c7))
      (try (have c7b2 : (t129 == 0 && (t130 == 0)) = false := by simpa using c7))
      (try (have c7b3 : ¬ (t129 = 0 && (t130 == 0)) := by simpa using c7))
      clear c7
      obtain rfl := Option.some.inj H
      go_enter Try.func17, Try.ntmps17
      go_wp2_with (first | ((with_reducible refine gate_callee (f := 21) rfl ?_); refine goesL_ (some 1) rfl rfl Try.func21 (by kernel_rfl) rfl #[.int .i64 3] rfl (by (try simp only [List.map_toArray, List.map_cons, List.map_nil]); first | done | rfl | (simp only [List.length_drop, List.length_take]; rfl)) ?_; (with_reducible refine (val_Of.calls 3 t118 t119 _ A1.out).mono ?_); rintro e w39 ⟨rfl, hb⟩; refine ⟨_, rfl, ?_⟩; have n0_ := Aside0.mk (below_step (by repeat (first | (with_reducible first | exact HB.out | apply below_alloc | apply pw_below_drewN | apply below_drew1) | exact HB.out)) hb); clear HB; have HB := n0_; clear n0_; (try clear hb); (try clear hb2); (try clear hk); (try clear hi)) | ((with_reducible refine gate_callee (f := 21) rfl ?_); refine goesL_ (some 2) rfl rfl Try.func21 (by kernel_rfl) rfl #[.int .i64 0] rfl (by (try simp only [List.map_toArray, List.map_cons, List.map_nil]); first | done | rfl | (simp only [List.length_drop, List.length_take]; rfl)) ?_; (with_reducible refine (val_Of.calls 0 t120 t121 _ A2.out).mono ?_); rintro e w40 ⟨rfl, hb⟩; refine ⟨_, rfl, ?_⟩; have n0_ := Aside0.mk (below_step (by repeat (first | (with_reducible first | exact HB.out | apply below_alloc | apply pw_below_drewN | apply below_drew1) | exact HB.out)) hb); clear HB; have HB := n0_; clear n0_; (try clear hb); (try clear hb2); (try clear hk); (try clear hi)) | ((with_reducible refine gate_callee (f := 27) rfl ?_); refine goesL_ (some 3) rfl rfl Try.func27 (by kernel_rfl) rfl #[.agg #[.int .i64 t118, .int .i64 t119], .agg #[.int .i64 t120, .int .i64 t121]] rfl (by (try simp only [List.map_toArray, List.map_cons, List.map_nil]); first | done | rfl | (simp only [List.length_drop, List.length_take]; rfl)) ?_; (with_reducible refine (val_Div.calls t118 t119 t120 t121 t122 t123 _ A3.out).mono ?_); rintro e w41 ⟨rfl, hb⟩; refine ⟨_, rfl, ?_⟩; have n0_ := Aside0.mk (below_step (by repeat (first | (with_reducible first | exact HB.out | apply below_alloc | apply pw_below_drewN | apply below_drew1) | exact HB.out)) hb); clear HB; have HB := n0_; clear n0_; (try clear hb); (try clear hb2); (try clear hk); (try clear hi)) | (go_at_call 21; (with_reducible refine (val_Of.calls 0 t124 t125 _ A5.out).mono ?_); rintro e w42 ⟨rfl, hb⟩; have n0_ := Aside0.mk (below_step (by repeat (first | (with_reducible first | exact HB.out | apply below_alloc | apply pw_below_drewN | apply below_drew1) | exact HB.out)) hb); clear HB; have HB := n0_; clear n0_; (try clear hb); (try clear hb2); (try clear hk); (try clear hi)) | ((with_reducible refine gate_dst (N := 9) rfl ?_); (try (refine gate_guard (by rfl) ?_; dsimp only)); refine Kd.R_lit k25 _ 25 ?hg (N := 9) ?hd (xs := ([(⟨1, 0⟩ : S25), (⟨t124, t125⟩ : S25)] : List (S25))) (inner := [.int .i64 1, .int .i64 0, .int .i64 t124, .int .i64 t125]) (ok := fun _ => True) (okp := fun _ => True) ?hr ?hp (fun _ hk => hk) trivial (Below.refl _ _) (Nat.le_refl _) (by simp) ?_; (case hd => rfl); (case hg => rfl); (case hr => first | (go_simp; done) | (go_simp; rfl)); (case hp => exact (Reps.c2 (show Kd.M k25 _ _ _ (⟨1, 0⟩ : S25) [.int .i64 1, .int .i64 0] from (k25_mkM _ _ _ (⟨1, 0⟩ : S25) )) (Reps.c2 (show Kd.M k25 _ _ _ (⟨t124, t125⟩ : S25) [.int .i64 t124, .int .i64 t125] from (k25_mkM _ _ _ (⟨t124, t125⟩ : S25) )) (Reps.none _ _)))); intro v127 w43 ho44 hb hg_ hnew_; clear hg_ hnew_; (first | rw [← Ny126.out] at ho44 | (simp only [Int.reduceToNat] at ho44; rw [← Ny126.out] at ho44)); have n0_ := Aside0.mk (Kd.R_lower ho44 (below_size (by repeat (first | (with_reducible first | exact HB.out | apply below_alloc | apply pw_below_drewN | apply below_drew1) | exact HB.out)))); have n1_ := Aside0.mk (below_step (by repeat (first | (with_reducible first | exact HB.out | apply below_alloc | apply pw_below_drewN | apply below_drew1) | exact HB.out)) hb); clear HB; have HO128 := n0_; have HB := n1_; clear n0_ n1_; clear hb ho44; obtain ⟨Ao45, co45, eo45⟩ := Kd.R_slice HO128.out; subst eo45) | (go_at_call 19; (with_reducible refine (val_And.calls _ _ y126 t129 t130 _ ?side1 ?side2 A6.out).mono ?_); (case side1 => repeat (first | exact (Kd.R_reads' HO128.out).2.2 | (with_reducible refine Kd.C_alloc ?_ _) | (with_reducible refine Kd.C_drewN ?_ _) | (with_reducible refine Kd.C_drew ?_))); (case side2 => exact (Kd.R_reads' HO128.out).2.1); rintro e w46 ⟨rfl, hb⟩; have n0_ := Aside0.mk (Kd.R_below (by (with_reducible repeat (first | apply Kd.R_alloc | apply Kd.R_drewN | apply Kd.R_drew)); exact HO128.out) hb); have n1_ := Aside0.mk (below_step (by repeat (first | (with_reducible first | exact HB.out | apply below_alloc | apply pw_below_drewN | apply below_drew1) | exact HB.out)) hb); clear HO128; clear HB; have HO128 := n0_; have HB := n1_; clear n0_ n1_; (try clear hb); (try clear hb2); (try clear hk); (try clear hi)))
      go_ret
      exact ⟨by first | rfl | (simp [errW_none, errW_some] <;> rfl) | (simp [*, errW_none, errW_some] <;> rfl) | (clear HB; simp only [aside0_iff] at *; simp_all; done), by repeat (first | (with_reducible first | exact HB.out | apply below_alloc | apply pw_below_drewN | apply below_drew1) | exact HB.out)⟩
  · rw [if_neg c4] at H
    have c4b0 : (t122 == 2 && (t123 == 0)) = false := by simpa using c4
    (try (have c4b1 : decide (t122 = 2 && (t123 == 0)) = false := by simpa using c4))
    (try (have c4b2 : (t122 == 2 && (t123 == 0)) = false := by simpa using c4))
    (try (have c4b3 : ¬ (t122 = 2 && (t123 == 0)) := by simpa using c4))
    clear c4
    obtain rfl := Option.some.inj H
    go_enter Try.func17, Try.ntmps17
    go_wp2_with (first | ((with_reducible refine gate_callee (f := 21) rfl ?_); refine goesL_ (some 1) rfl rfl Try.func21 (by kernel_rfl) rfl #[.int .i64 3] rfl (by (try simp only [List.map_toArray, List.map_cons, List.map_nil]); first | done | rfl | (simp only [List.length_drop, List.length_take]; rfl)) ?_; (with_reducible refine (val_Of.calls 3 t118 t119 _ A1.out).mono ?_); rintro e w47 ⟨rfl, hb⟩; refine ⟨_, rfl, ?_⟩; have n0_ := Aside0.mk (below_step (by repeat (first | (with_reducible first | exact HB.out | apply below_alloc | apply pw_below_drewN | apply below_drew1) | exact HB.out)) hb); clear HB; have HB := n0_; clear n0_; (try clear hb); (try clear hb2); (try clear hk); (try clear hi)) | ((with_reducible refine gate_callee (f := 21) rfl ?_); refine goesL_ (some 2) rfl rfl Try.func21 (by kernel_rfl) rfl #[.int .i64 0] rfl (by (try simp only [List.map_toArray, List.map_cons, List.map_nil]); first | done | rfl | (simp only [List.length_drop, List.length_take]; rfl)) ?_; (with_reducible refine (val_Of.calls 0 t120 t121 _ A2.out).mono ?_); rintro e w48 ⟨rfl, hb⟩; refine ⟨_, rfl, ?_⟩; have n0_ := Aside0.mk (below_step (by repeat (first | (with_reducible first | exact HB.out | apply below_alloc | apply pw_below_drewN | apply below_drew1) | exact HB.out)) hb); clear HB; have HB := n0_; clear n0_; (try clear hb); (try clear hb2); (try clear hk); (try clear hi)) | ((with_reducible refine gate_callee (f := 27) rfl ?_); refine goesL_ (some 3) rfl rfl Try.func27 (by kernel_rfl) rfl #[.agg #[.int .i64 t118, .int .i64 t119], .agg #[.int .i64 t120, .int .i64 t121]] rfl (by (try simp only [List.map_toArray, List.map_cons, List.map_nil]); first | done | rfl | (simp only [List.length_drop, List.length_take]; rfl)) ?_; (with_reducible refine (val_Div.calls t118 t119 t120 t121 t122 t123 _ A3.out).mono ?_); rintro e w49 ⟨rfl, hb⟩; refine ⟨_, rfl, ?_⟩; have n0_ := Aside0.mk (below_step (by repeat (first | (with_reducible first | exact HB.out | apply below_alloc | apply pw_below_drewN | apply below_drew1) | exact HB.out)) hb); clear HB; have HB := n0_; clear n0_; (try clear hb); (try clear hb2); (try clear hk); (try clear hi)))
    go_ret
    exact ⟨by first | rfl | (simp [errW_none, errW_some] <;> rfl) | (simp [*, errW_none, errW_some] <;> rfl) | (clear HB; simp only [aside0_iff] at *; simp_all; done), by repeat (first | (with_reducible first | exact HB.out | apply below_alloc | apply pw_below_drewN | apply below_drew1) | exact HB.out)⟩

/-! ### val_of: function 67 -/
def val_of.f (a0 : Bool) : Option (Int × Int) := if a0 = true then ((val_Of.f 1).bind fun bt142 => (some (bt142.1, bt142.2))) else ((val_Of.f 0).bind fun bt144 => (some (bt144.1, bt144.2)))
set_option maxHeartbeats 8000000 in
set_option maxRecDepth 100000 in
theorem val_of.calls (a0 : Bool) (r1 : Int) (r2 : Int) (w : World) (h : val_of.f a0 = some (r1, r2)) :
    Calls Try.prog 67 #[.bool a0] w fun e w' => e = .returned (.agg #[.int .i64 r1, .int .i64 r2]) ∧ Below w.heap.size w w' := by
  have hu25 := Try.underlying25
  have HB := Aside0.mk (Below.refl w.heap.size w)
  have H : (if a0 = true then ((val_Of.f 1).bind fun bt142 => (some (bt142.1, bt142.2))) else ((val_Of.f 0).bind fun bt144 => (some (bt144.1, bt144.2)))) = some (r1, r2) := h
  clear h
  by_cases c2 : a0 = true
  · subst c2
    have H1 : ((val_Of.f 1).bind fun bt142 => (some (bt142.1, bt142.2))) = some (r1, r2) := by rw [if_pos rfl] at H; exact H
    clear H
    have H := H1
    clear H1
    replace H := Option.bind_eq_some_iff.mp H
    obtain ⟨⟨t142, t143⟩, A30, H⟩ := H
    replace H : (some (t142, t143)) = some (r1, r2) := H
    have A3 := Aside0.mk A30
    clear A30
    simp only [Option.some.injEq, Prod.mk.injEq] at H
    obtain ⟨rfl, rfl⟩ := H
    go_enter Try.func67, Try.ntmps67
    go_wp2_with (first | ((with_reducible refine gate_dst (N := 2) rfl ?_); refine box_event ?hg (N := 2) ?hd (cs := #[.int .i64 0, .int .i64 0]) (t := 25) ?hr ?_; (case hd => rfl); (case hg => rfl); (case hr => first | (go_simp; done) | (go_simp; rfl)); intro gb141 hg w4 hbox hb; have n0_ := Aside0.mk (below_step (by repeat (first | (with_reducible first | exact HB.out | apply below_alloc | apply pw_below_drewN | apply below_drew1) | exact HB.out)) hb); have n1_ := Aside0.mk (hbox); have n2_ := Aside0.mk ((by rw [hg]; exact (below_size (by repeat (first | (with_reducible first | exact HB.out | apply below_alloc | apply pw_below_drewN | apply below_drew1) | exact HB.out))) : w.heap.size ≤ gb141)); have n3_ := Aside0.mk ((by rw [hg]; exact (below_size (by repeat (first | (with_reducible first | exact HB.out | apply below_alloc | apply pw_below_drewN | apply below_drew1) | exact HB.out))) : w.heap.size ≤ gb141)); clear HB; have HB := n0_; have BK141 := n1_; have GW141 := n2_; have GE141 := n3_; clear n0_ n1_ n2_ n3_; clear hb hbox hg) | ((with_reducible refine gate_callee (f := 21) rfl ?_); refine goesL_ (some 4) rfl rfl Try.func21 (by kernel_rfl) rfl #[.int .i64 1] rfl (by (try simp only [List.map_toArray, List.map_cons, List.map_nil]); first | done | rfl | (simp only [List.length_drop, List.length_take]; rfl)) ?_; (with_reducible refine (val_Of.calls 1 t142 t143 _ A3.out).mono ?_); rintro e w5 ⟨rfl, hb⟩; refine ⟨_, rfl, ?_⟩; have n0_ := Aside0.mk (blk_below (g := gb141) (o := .cells #[.int .i64 0, .int .i64 0] 25 (0, 0)) (by (with_reducible repeat (first | refine blk_drewN ?_ _ | refine blk_drew ?_ | refine blk_alloc ?_ _)); exact BK141.out) hb); have n1_ := Aside0.mk (below_step (by repeat (first | (with_reducible first | exact HB.out | apply below_alloc | apply pw_below_drewN | apply below_drew1 | refine below_set ?_ GE141.out) | exact HB.out)) hb); clear BK141; clear HB; have BK141 := n0_; have HB := n1_; clear n0_ n1_; (try clear hb); (try clear hb2); (try clear hk); (try clear hi); have hcz6_0 : w5.cell? ⟨gb141, 0, none⟩ = some (.int .i64 0) := (blk_cell BK141.out 0).trans rfl; have hcz6_1 : w5.cell? ⟨gb141, 1, none⟩ = some (.int .i64 0) := (blk_cell BK141.out 1).trans rfl; have hfz6_0 := blk_frozen BK141.out 0; have hfz6_1 := blk_frozen BK141.out 1))
    refine bodyPost_ret (results_cell_row rfl _ _ gb141 25 #[.int .i64 t142, .int .i64 t143] (0, 0) _ rfl (by (with_reducible repeat (first | refine blk_drewN ?_ _ | refine blk_drew ?_ | refine blk_alloc ?_ _)); refine blk_put (cs := #[.int .i64 t142, .int .i64 0]) ?_ 1 _ rfl; (with_reducible repeat (first | refine blk_drewN ?_ _ | refine blk_drew ?_ | refine blk_alloc ?_ _)); refine blk_put (cs := #[.int .i64 0, .int .i64 0]) ?_ 0 _ rfl; (with_reducible repeat (first | refine blk_drewN ?_ _ | refine blk_drew ?_ | refine blk_alloc ?_ _)); exact BK141.out) Try.underlying25 rfl (by kernel_rfl)) rfl ?_
    exact ⟨by first | rfl | (simp [errW_none, errW_some] <;> rfl) | (simp [*, errW_none, errW_some] <;> rfl) | (clear HB; simp only [aside0_iff] at *; simp_all; done), by repeat (first | (with_reducible first | exact HB.out | apply below_alloc | apply pw_below_drewN | apply below_drew1 | refine below_set ?_ GE141.out) | exact HB.out)⟩
  · replace c2 := Bool.eq_false_iff.mpr c2
    subst c2
    have H1 : ((val_Of.f 0).bind fun bt144 => (some (bt144.1, bt144.2))) = some (r1, r2) := by rw [if_neg (show ¬ (false = true) by decide)] at H; exact H
    clear H
    have H := H1
    clear H1
    replace H := Option.bind_eq_some_iff.mp H
    obtain ⟨⟨t144, t145⟩, A70, H⟩ := H
    replace H : (some (t144, t145)) = some (r1, r2) := H
    have A7 := Aside0.mk A70
    clear A70
    simp only [Option.some.injEq, Prod.mk.injEq] at H
    obtain ⟨rfl, rfl⟩ := H
    go_enter Try.func67, Try.ntmps67
    go_wp2_with (first | ((with_reducible refine gate_dst (N := 2) rfl ?_); refine box_event ?hg (N := 2) ?hd (cs := #[.int .i64 0, .int .i64 0]) (t := 25) ?hr ?_; (case hd => rfl); (case hg => rfl); (case hr => first | (go_simp; done) | (go_simp; rfl)); intro gb141 hg w8 hbox hb; have n0_ := Aside0.mk (below_step (by repeat (first | (with_reducible first | exact HB.out | apply below_alloc | apply pw_below_drewN | apply below_drew1) | exact HB.out)) hb); have n1_ := Aside0.mk (hbox); have n2_ := Aside0.mk ((by rw [hg]; exact (below_size (by repeat (first | (with_reducible first | exact HB.out | apply below_alloc | apply pw_below_drewN | apply below_drew1) | exact HB.out))) : w.heap.size ≤ gb141)); have n3_ := Aside0.mk ((by rw [hg]; exact (below_size (by repeat (first | (with_reducible first | exact HB.out | apply below_alloc | apply pw_below_drewN | apply below_drew1) | exact HB.out))) : w.heap.size ≤ gb141)); clear HB; have HB := n0_; have BK141 := n1_; have GW141 := n2_; have GE141 := n3_; clear n0_ n1_ n2_ n3_; clear hb hbox hg) | ((with_reducible refine gate_callee (f := 21) rfl ?_); refine goesL_ (some 5) rfl rfl Try.func21 (by kernel_rfl) rfl #[.int .i64 0] rfl (by (try simp only [List.map_toArray, List.map_cons, List.map_nil]); first | done | rfl | (simp only [List.length_drop, List.length_take]; rfl)) ?_; (with_reducible refine (val_Of.calls 0 t144 t145 _ A7.out).mono ?_); rintro e w9 ⟨rfl, hb⟩; refine ⟨_, rfl, ?_⟩; have n0_ := Aside0.mk (blk_below (g := gb141) (o := .cells #[.int .i64 0, .int .i64 0] 25 (0, 0)) (by (with_reducible repeat (first | refine blk_drewN ?_ _ | refine blk_drew ?_ | refine blk_alloc ?_ _)); exact BK141.out) hb); have n1_ := Aside0.mk (below_step (by repeat (first | (with_reducible first | exact HB.out | apply below_alloc | apply pw_below_drewN | apply below_drew1 | refine below_set ?_ GE141.out) | exact HB.out)) hb); clear BK141; clear HB; have BK141 := n0_; have HB := n1_; clear n0_ n1_; (try clear hb); (try clear hb2); (try clear hk); (try clear hi); have hcz10_0 : w9.cell? ⟨gb141, 0, none⟩ = some (.int .i64 0) := (blk_cell BK141.out 0).trans rfl; have hcz10_1 : w9.cell? ⟨gb141, 1, none⟩ = some (.int .i64 0) := (blk_cell BK141.out 1).trans rfl; have hfz10_0 := blk_frozen BK141.out 0; have hfz10_1 := blk_frozen BK141.out 1))
    refine bodyPost_ret (results_cell_row rfl _ _ gb141 25 #[.int .i64 t144, .int .i64 t145] (0, 0) _ rfl (by (with_reducible repeat (first | refine blk_drewN ?_ _ | refine blk_drew ?_ | refine blk_alloc ?_ _)); refine blk_put (cs := #[.int .i64 t144, .int .i64 0]) ?_ 1 _ rfl; (with_reducible repeat (first | refine blk_drewN ?_ _ | refine blk_drew ?_ | refine blk_alloc ?_ _)); refine blk_put (cs := #[.int .i64 0, .int .i64 0]) ?_ 0 _ rfl; (with_reducible repeat (first | refine blk_drewN ?_ _ | refine blk_drew ?_ | refine blk_alloc ?_ _)); exact BK141.out) Try.underlying25 rfl (by kernel_rfl)) rfl ?_
    exact ⟨by first | rfl | (simp [errW_none, errW_some] <;> rfl) | (simp [*, errW_none, errW_some] <;> rfl) | (clear HB; simp only [aside0_iff] at *; simp_all; done), by repeat (first | (with_reducible first | exact HB.out | apply below_alloc | apply pw_below_drewN | apply below_drew1 | refine below_set ?_ GE141.out) | exact HB.out)⟩

/-! ### val_Not: function 18 -/
def val_Not.f (a0_0 : Int) (a0_1 : Int) : Option (Int × Int) := (val_odd.f (([(⟨a0_0, a0_1⟩ : S25)] : List (S25)))).bind fun bt151 => (if bt151.2.2 = true then (some (bt151.1, bt151.2.1)) else ((val_of.f (a0_1 == 0)).bind fun bt155 => (some (bt155.1, bt155.2))))
set_option maxHeartbeats 8000000 in
set_option maxRecDepth 100000 in
theorem val_Not.calls (a0_0 : Int) (a0_1 : Int) (r1 : Int) (r2 : Int) (w : World) (h : val_Not.f a0_0 a0_1 = some (r1, r2)) :
    Calls Try.prog 18 #[.agg #[.int .i64 a0_0, .int .i64 a0_1]] w fun e w' => e = .returned (.agg #[.int .i64 r1, .int .i64 r2]) ∧ Below w.heap.size w w' := by
  have hu25 := Try.underlying25
  have HB := Aside0.mk (Below.refl w.heap.size w)
  have H : ((val_odd.f (([(⟨a0_0, a0_1⟩ : S25)] : List (S25)))).bind fun bt151 => (if bt151.2.2 = true then (some (bt151.1, bt151.2.1)) else ((val_of.f (a0_1 == 0)).bind fun bt155 => (some (bt155.1, bt155.2))))) = some (r1, r2) := h
  clear h
  obtain ⟨y148, hy148⟩ : ∃ y_ : List (S25), y_ = (([(⟨a0_0, a0_1⟩ : S25)] : List (S25))) := ⟨_, rfl⟩
  replace H : ((val_odd.f y148).bind fun bt151 => (if bt151.2.2 = true then (some (bt151.1, bt151.2.1)) else ((val_of.f (a0_1 == 0)).bind fun bt155 => (some (bt155.1, bt155.2))))) = some (r1, r2) := by first | (rw [hy148]; with_reducible exact H) | (have H2_ := (Option.bind_some _ _).symm.trans H; rw [hy148]; with_reducible exact H2_) | (have H2_ := (Option.bind_some _ _).symm.trans H; with_reducible exact H2_) | with_reducible exact H | (rw [hy148]; exact H) | exact H
  have Ny148 := Aside0.mk hy148
  clear hy148
  replace H := Option.bind_eq_some_iff.mp H
  obtain ⟨⟨t151, t152, t153⟩, A20, H⟩ := H
  replace H : (if t153 = true then (some (t151, t152)) else ((val_of.f (a0_1 == 0)).bind fun bt155 => (some (bt155.1, bt155.2)))) = some (r1, r2) := H
  have A2 := Aside0.mk A20
  clear A20
  by_cases c3 : t153 = true
  · subst c3
    have H1 : (some (t151, t152)) = some (r1, r2) := by rw [if_pos rfl] at H; exact H
    clear H
    have H := H1
    clear H1
    simp only [Option.some.injEq, Prod.mk.injEq] at H
    obtain ⟨rfl, rfl⟩ := H
    go_enter Try.func18, Try.ntmps18
    go_wp2_with (first | ((with_reducible refine gate_dst (N := 1) rfl ?_); refine box_event ?hg (N := 1) ?hd (cs := #[.int .i64 a0_0, .int .i64 a0_1]) (t := 25) ?hr ?_; (case hd => rfl); (case hg => rfl); (case hr => first | (go_simp; done) | (go_simp; rfl)); intro gb146 hg w4 hbox hb; have n0_ := Aside0.mk (below_step (by repeat (first | (with_reducible first | exact HB.out | apply below_alloc | apply pw_below_drewN | apply below_drew1) | exact HB.out)) hb); have n1_ := Aside0.mk (hbox); have n2_ := Aside0.mk ((by rw [hg]; exact (below_size (by repeat (first | (with_reducible first | exact HB.out | apply below_alloc | apply pw_below_drewN | apply below_drew1) | exact HB.out))) : w.heap.size ≤ gb146)); have n3_ := Aside0.mk ((by rw [hg]; exact (below_size (by repeat (first | (with_reducible first | exact HB.out | apply below_alloc | apply pw_below_drewN | apply below_drew1) | exact HB.out))) : w.heap.size ≤ gb146)); clear HB; have HB := n0_; have BK146 := n1_; have GW146 := n2_; have GE146 := n3_; clear n0_ n1_ n2_ n3_; clear hb hbox hg) | ((with_reducible refine gate_dst (N := 2) rfl ?_); refine box_event ?hg (N := 2) ?hd (cs := #[.int .i64 0, .int .i64 0]) (t := 25) ?hr ?_; (case hd => rfl); (case hg => rfl); (case hr => first | (go_simp; done) | (go_simp; rfl)); intro gb147 hg w5 hbox hb; have n0_ := Aside0.mk (blk_below (g := gb146) (o := .cells #[.int .i64 a0_0, .int .i64 a0_1] 25 (0, 0)) (by (with_reducible repeat (first | refine blk_drewN ?_ _ | refine blk_drew ?_ | refine blk_alloc ?_ _)); exact BK146.out) hb); have n1_ := Aside0.mk (below_step (by repeat (first | (with_reducible first | exact HB.out | apply below_alloc | apply pw_below_drewN | apply below_drew1 | refine below_set ?_ GE146.out) | exact HB.out)) hb); have n2_ := Aside0.mk (hbox); have n3_ := Aside0.mk ((by rw [hg]; exact (below_size (by repeat (first | (with_reducible first | exact HB.out | apply below_alloc | apply pw_below_drewN | apply below_drew1 | refine below_set ?_ GE146.out) | exact HB.out))) : w.heap.size ≤ gb147)); have n4_ := Aside0.mk ((by rw [hg]; exact (below_size (by repeat (first | (with_reducible first | exact HB.out | apply below_alloc | apply pw_below_drewN | apply below_drew1 | refine below_set ?_ GE146.out) | exact HB.out))) : w.heap.size ≤ gb147)); have n5_ := Aside0.mk ((by rw [hg]; exact Nat.ne_of_lt (blk_lt (g := gb146) (o := .cells #[.int .i64 a0_0, .int .i64 a0_1] 25 (0, 0)) (by (with_reducible repeat (first | refine blk_drewN ?_ _ | refine blk_drew ?_ | refine blk_alloc ?_ _)); exact BK146.out)) : gb146 ≠ gb147)); have n6_ := Aside0.mk ((by rw [hg]; exact Nat.ne_of_gt (blk_lt (g := gb146) (o := .cells #[.int .i64 a0_0, .int .i64 a0_1] 25 (0, 0)) (by (with_reducible repeat (first | refine blk_drewN ?_ _ | refine blk_drew ?_ | refine blk_alloc ?_ _)); exact BK146.out)) : gb147 ≠ gb146)); clear BK146; clear HB; have BK146 := n0_; have HB := n1_; have BK147 := n2_; have GW147 := n3_; have GE147 := n4_; have NB146_147 := n5_; have NB147_146 := n6_; clear n0_ n1_ n2_ n3_ n4_ n5_ n6_; clear hb hbox hg; have hnb6 := NB146_147.out; have hnc6 := NB147_146.out; have hcz7_0 : w5.cell? ⟨gb146, 0, none⟩ = some (.int .i64 a0_0) := (blk_cell BK146.out 0).trans rfl; have hcz7_1 : w5.cell? ⟨gb146, 1, none⟩ = some (.int .i64 a0_1) := (blk_cell BK146.out 1).trans rfl; have hfz7_0 := blk_frozen BK146.out 0; have hfz7_1 := blk_frozen BK146.out 1) | ((with_reducible refine gate_dst (N := 7) rfl ?_); refine Kd.R_lit k25 _ 25 ?hg (N := 7) ?hd (xs := ([(⟨a0_0, a0_1⟩ : S25)] : List (S25))) (inner := [.int .i64 a0_0, .int .i64 a0_1]) (ok := fun _ => True) (okp := fun _ => True) ?hr ?hp (fun _ hk => hk) trivial (Below.refl _ _) (Nat.le_refl _) (by simp) ?_; (case hd => rfl); (case hg => rfl); (case hr => first | (go_simp; done) | (go_simp; rfl)); (case hp => exact (Reps.c2 (show Kd.M k25 _ _ _ (⟨a0_0, a0_1⟩ : S25) [.int .i64 a0_0, .int .i64 a0_1] from (k25_mkM _ _ _ (⟨a0_0, a0_1⟩ : S25) )) (Reps.none _ _))); intro v149 w8 ho9 hb hg_ hnew_; clear hg_ hnew_; (first | rw [← Ny148.out] at ho9 | (simp only [Int.reduceToNat] at ho9; rw [← Ny148.out] at ho9)); have n0_ := Aside0.mk (Kd.R_lower (Kd.R_newB (Kd.R_newB ho9 (g := gb146) (o := .cells #[.int .i64 a0_0, .int .i64 a0_1] 25 (0, 0)) (by (with_reducible repeat (first | refine blk_drewN ?_ _ | refine blk_drew ?_ | refine blk_alloc ?_ _)); exact BK146.out)) (g := gb147) (o := .cells #[.int .i64 0, .int .i64 0] 25 (0, 0)) (by (with_reducible repeat (first | refine blk_drewN ?_ _ | refine blk_drew ?_ | refine blk_alloc ?_ _)); exact BK147.out)) (below_size (by repeat (first | (with_reducible first | exact HB.out | apply below_alloc | apply pw_below_drewN | apply below_drew1 | refine below_set ?_ GE146.out | refine below_set ?_ GE147.out) | exact HB.out)))); have n1_ := Aside0.mk (blk_below (g := gb146) (o := .cells #[.int .i64 a0_0, .int .i64 a0_1] 25 (0, 0)) (by (with_reducible repeat (first | refine blk_drewN ?_ _ | refine blk_drew ?_ | refine blk_alloc ?_ _)); exact BK146.out) hb); have n2_ := Aside0.mk (blk_below (g := gb147) (o := .cells #[.int .i64 0, .int .i64 0] 25 (0, 0)) (by (with_reducible repeat (first | refine blk_drewN ?_ _ | refine blk_drew ?_ | refine blk_alloc ?_ _)); exact BK147.out) hb); have n3_ := Aside0.mk (below_step (by repeat (first | (with_reducible first | exact HB.out | apply below_alloc | apply pw_below_drewN | apply below_drew1 | refine below_set ?_ GE146.out | refine below_set ?_ GE147.out) | exact HB.out)) hb); clear BK146; clear BK147; clear HB; have HO150 := n0_; have BK146 := n1_; have BK147 := n2_; have HB := n3_; clear n0_ n1_ n2_ n3_; clear hb ho9; obtain ⟨Ao10, co10, eo10⟩ := Kd.R_slice HO150.out; subst eo10) | ((with_reducible refine gate_callee (f := 66) rfl ?_); refine goesL_ (some 8) rfl rfl Try.func66 (by kernel_rfl) rfl #[.slice Ao10 y148.length co10] rfl (by (try simp only [List.map_toArray, List.map_cons, List.map_nil]); first | done | rfl | (simp only [List.length_drop, List.length_take]; rfl)) ?_; (with_reducible refine (val_odd.calls _ _ y148 t151 t152 true _ ?side1 ?side2 A2.out).mono ?_); (case side1 => repeat (first | exact (Kd.R_reads' HO150.out).2.2 | (with_reducible refine Kd.C_alloc ?_ _) | (with_reducible refine Kd.C_drewN ?_ _) | (with_reducible refine Kd.C_drew ?_))); (case side2 => exact (Kd.R_reads' HO150.out).2.1); rintro e w11 ⟨rfl, hb⟩; refine ⟨_, rfl, ?_⟩; have n0_ := Aside0.mk (Kd.R_below (by (with_reducible repeat (first | apply Kd.R_alloc | apply Kd.R_drewN | apply Kd.R_drew)); exact HO150.out) hb); have n1_ := Aside0.mk (blk_below (g := gb146) (o := .cells #[.int .i64 a0_0, .int .i64 a0_1] 25 (0, 0)) (by (with_reducible repeat (first | refine blk_drewN ?_ _ | refine blk_drew ?_ | refine blk_alloc ?_ _)); exact BK146.out) hb); have n2_ := Aside0.mk (blk_below (g := gb147) (o := .cells #[.int .i64 0, .int .i64 0] 25 (0, 0)) (by (with_reducible repeat (first | refine blk_drewN ?_ _ | refine blk_drew ?_ | refine blk_alloc ?_ _)); exact BK147.out) hb); have n3_ := Aside0.mk (below_step (by repeat (first | (with_reducible first | exact HB.out | apply below_alloc | apply pw_below_drewN | apply below_drew1 | refine below_set ?_ GE146.out | refine below_set ?_ GE147.out) | exact HB.out)) hb); clear HO150; clear BK146; clear BK147; clear HB; have HO150 := n0_; have BK146 := n1_; have BK147 := n2_; have HB := n3_; clear n0_ n1_ n2_ n3_; (try clear hb); (try clear hb2); (try clear hk); (try clear hi)) | ((with_reducible refine gate_dst (N := 3) rfl ?_); refine box_event ?hg (N := 3) ?hd (cs := #[.int .i64 0, .int .i64 0]) (t := 25) ?hr ?_; (case hd => rfl); (case hg => rfl); (case hr => first | (go_simp; done) | (go_simp; rfl)); intro gb154 hg w12 hbox hb; have n0_ := Aside0.mk (Kd.R_below (Kd.R_elderB (by (with_reducible repeat (first | apply Kd.R_alloc | apply Kd.R_drewN | apply Kd.R_drew)); exact HO150.out) gb154 (Nat.le_of_eq hg.symm)) hb); have n1_ := Aside0.mk (blk_below (g := gb146) (o := .cells #[.int .i64 a0_0, .int .i64 a0_1] 25 (0, 0)) (by (with_reducible repeat (first | refine blk_drewN ?_ _ | refine blk_drew ?_ | refine blk_alloc ?_ _)); exact BK146.out) hb); have n2_ := Aside0.mk (blk_below (g := gb147) (o := .cells #[.int .i64 0, .int .i64 0] 25 (0, 0)) (by (with_reducible repeat (first | refine blk_drewN ?_ _ | refine blk_drew ?_ | refine blk_alloc ?_ _)); exact BK147.out) hb); have n3_ := Aside0.mk (below_step (by repeat (first | (with_reducible first | exact HB.out | apply below_alloc | apply pw_below_drewN | apply below_drew1 | refine below_set ?_ GE146.out | refine below_set ?_ GE147.out) | exact HB.out)) hb); have n4_ := Aside0.mk (hbox); have n5_ := Aside0.mk ((by rw [hg]; exact (below_size (by repeat (first | (with_reducible first | exact HB.out | apply below_alloc | apply pw_below_drewN | apply below_drew1 | refine below_set ?_ GE146.out | refine below_set ?_ GE147.out) | exact HB.out))) : w.heap.size ≤ gb154)); have n6_ := Aside0.mk ((by rw [hg]; exact (below_size (by repeat (first | (with_reducible first | exact HB.out | apply below_alloc | apply pw_below_drewN | apply below_drew1 | refine below_set ?_ GE146.out | refine below_set ?_ GE147.out) | exact HB.out))) : w.heap.size ≤ gb154)); have n7_ := Aside0.mk ((by rw [hg]; exact Nat.ne_of_lt (blk_lt (g := gb146) (o := .cells #[.int .i64 a0_0, .int .i64 a0_1] 25 (0, 0)) (by (with_reducible repeat (first | refine blk_drewN ?_ _ | refine blk_drew ?_ | refine blk_alloc ?_ _)); exact BK146.out)) : gb146 ≠ gb154)); have n8_ := Aside0.mk ((by rw [hg]; exact Nat.ne_of_gt (blk_lt (g := gb146) (o := .cells #[.int .i64 a0_0, .int .i64 a0_1] 25 (0, 0)) (by (with_reducible repeat (first | refine blk_drewN ?_ _ | refine blk_drew ?_ | refine blk_alloc ?_ _)); exact BK146.out)) : gb154 ≠ gb146)); have n9_ := Aside0.mk ((by rw [hg]; exact Nat.ne_of_lt (blk_lt (g := gb147) (o := .cells #[.int .i64 0, .int .i64 0] 25 (0, 0)) (by (with_reducible repeat (first | refine blk_drewN ?_ _ | refine blk_drew ?_ | refine blk_alloc ?_ _)); exact BK147.out)) : gb147 ≠ gb154)); have n10_ := Aside0.mk ((by rw [hg]; exact Nat.ne_of_gt (blk_lt (g := gb147) (o := .cells #[.int .i64 0, .int .i64 0] 25 (0, 0)) (by (with_reducible repeat (first | refine blk_drewN ?_ _ | refine blk_drew ?_ | refine blk_alloc ?_ _)); exact BK147.out)) : gb154 ≠ gb147)); clear HO150; clear BK146; clear BK147; clear HB; have HO150 := n0_; have BK146 := n1_; have BK147 := n2_; have HB := n3_; have BK154 := n4_; have GW154 := n5_; have GE154 := n6_; have NB146_154 := n7_; have NB154_146 := n8_; have NB147_154 := n9_; have NB154_147 := n10_; clear n0_ n1_ n2_ n3_ n4_ n5_ n6_ n7_ n8_ n9_ n10_; clear hb hbox hg; have hnb13 := NB154_146.out; have hnc13 := NB146_154.out; have hnb14 := NB154_147.out; have hnc14 := NB147_154.out; have hcz15_0 : w12.cell? ⟨gb154, 0, none⟩ = some (.int .i64 0) := (blk_cell BK154.out 0).trans rfl; have hcz15_1 : w12.cell? ⟨gb154, 1, none⟩ = some (.int .i64 0) := (blk_cell BK154.out 1).trans rfl; have hfz15_0 := blk_frozen BK154.out 0; have hfz15_1 := blk_frozen BK154.out 1; have hcz16_0 : w12.cell? ⟨gb147, 0, none⟩ = some (.int .i64 0) := (blk_cell BK147.out 0).trans rfl; have hcz16_1 : w12.cell? ⟨gb147, 1, none⟩ = some (.int .i64 0) := (blk_cell BK147.out 1).trans rfl; have hfz16_0 := blk_frozen BK147.out 0; have hfz16_1 := blk_frozen BK147.out 1))
    refine bodyPost_ret (results_cell_row rfl _ _ gb147 25 #[.int .i64 t151, .int .i64 t152] (0, 0) _ rfl (by (with_reducible repeat (first | refine blk_drewN ?_ _ | refine blk_drew ?_ | refine blk_alloc ?_ _)); refine blk_put (cs := #[.int .i64 t151, .int .i64 0]) ?_ 1 _ rfl; (with_reducible repeat (first | refine blk_drewN ?_ _ | refine blk_drew ?_ | refine blk_alloc ?_ _)); refine blk_put (cs := #[.int .i64 0, .int .i64 0]) ?_ 0 _ rfl; (with_reducible repeat (first | refine blk_drewN ?_ _ | refine blk_drew ?_ | refine blk_alloc ?_ _)); refine blk_far ?_ NB147_154.out _; (with_reducible repeat (first | refine blk_drewN ?_ _ | refine blk_drew ?_ | refine blk_alloc ?_ _)); refine blk_far ?_ NB147_154.out _; (with_reducible repeat (first | refine blk_drewN ?_ _ | refine blk_drew ?_ | refine blk_alloc ?_ _)); exact BK147.out) Try.underlying25 rfl (by kernel_rfl)) rfl ?_
    exact ⟨by first | rfl | (simp [errW_none, errW_some] <;> rfl) | (simp [*, errW_none, errW_some] <;> rfl) | (clear HB; simp only [aside0_iff] at *; simp_all; done), by repeat (first | (with_reducible first | exact HB.out | apply below_alloc | apply pw_below_drewN | apply below_drew1 | refine below_set ?_ GE146.out | refine below_set ?_ GE147.out | refine below_set ?_ GE154.out) | exact HB.out)⟩
  · replace c3 := Bool.eq_false_iff.mpr c3
    subst c3
    have H1 : ((val_of.f (a0_1 == 0)).bind fun bt155 => (some (bt155.1, bt155.2))) = some (r1, r2) := by rw [if_neg (show ¬ (false = true) by decide)] at H; exact H
    clear H
    have H := H1
    clear H1
    replace H := Option.bind_eq_some_iff.mp H
    obtain ⟨⟨t155, t156⟩, A170, H⟩ := H
    replace H : (some (t155, t156)) = some (r1, r2) := H
    have A17 := Aside0.mk A170
    clear A170
    simp only [Option.some.injEq, Prod.mk.injEq] at H
    obtain ⟨rfl, rfl⟩ := H
    go_enter Try.func18, Try.ntmps18
    go_wp2_with (first | ((with_reducible refine gate_dst (N := 1) rfl ?_); refine box_event ?hg (N := 1) ?hd (cs := #[.int .i64 a0_0, .int .i64 a0_1]) (t := 25) ?hr ?_; (case hd => rfl); (case hg => rfl); (case hr => first | (go_simp; done) | (go_simp; rfl)); intro gb146 hg w18 hbox hb; have n0_ := Aside0.mk (below_step (by repeat (first | (with_reducible first | exact HB.out | apply below_alloc | apply pw_below_drewN | apply below_drew1) | exact HB.out)) hb); have n1_ := Aside0.mk (hbox); have n2_ := Aside0.mk ((by rw [hg]; exact (below_size (by repeat (first | (with_reducible first | exact HB.out | apply below_alloc | apply pw_below_drewN | apply below_drew1) | exact HB.out))) : w.heap.size ≤ gb146)); have n3_ := Aside0.mk ((by rw [hg]; exact (below_size (by repeat (first | (with_reducible first | exact HB.out | apply below_alloc | apply pw_below_drewN | apply below_drew1) | exact HB.out))) : w.heap.size ≤ gb146)); clear HB; have HB := n0_; have BK146 := n1_; have GW146 := n2_; have GE146 := n3_; clear n0_ n1_ n2_ n3_; clear hb hbox hg) | ((with_reducible refine gate_dst (N := 2) rfl ?_); refine box_event ?hg (N := 2) ?hd (cs := #[.int .i64 0, .int .i64 0]) (t := 25) ?hr ?_; (case hd => rfl); (case hg => rfl); (case hr => first | (go_simp; done) | (go_simp; rfl)); intro gb147 hg w19 hbox hb; have n0_ := Aside0.mk (blk_below (g := gb146) (o := .cells #[.int .i64 a0_0, .int .i64 a0_1] 25 (0, 0)) (by (with_reducible repeat (first | refine blk_drewN ?_ _ | refine blk_drew ?_ | refine blk_alloc ?_ _)); exact BK146.out) hb); have n1_ := Aside0.mk (below_step (by repeat (first | (with_reducible first | exact HB.out | apply below_alloc | apply pw_below_drewN | apply below_drew1 | refine below_set ?_ GE146.out) | exact HB.out)) hb); have n2_ := Aside0.mk (hbox); have n3_ := Aside0.mk ((by rw [hg]; exact (below_size (by repeat (first | (with_reducible first | exact HB.out | apply below_alloc | apply pw_below_drewN | apply below_drew1 | refine below_set ?_ GE146.out) | exact HB.out))) : w.heap.size ≤ gb147)); have n4_ := Aside0.mk ((by rw [hg]; exact (below_size (by repeat (first | (with_reducible first | exact HB.out | apply below_alloc | apply pw_below_drewN | apply below_drew1 | refine below_set ?_ GE146.out) | exact HB.out))) : w.heap.size ≤ gb147)); have n5_ := Aside0.mk ((by rw [hg]; exact Nat.ne_of_lt (blk_lt (g := gb146) (o := .cells #[.int .i64 a0_0, .int .i64 a0_1] 25 (0, 0)) (by (with_reducible repeat (first | refine blk_drewN ?_ _ | refine blk_drew ?_ | refine blk_alloc ?_ _)); exact BK146.out)) : gb146 ≠ gb147)); have n6_ := Aside0.mk ((by rw [hg]; exact Nat.ne_of_gt (blk_lt (g := gb146) (o := .cells #[.int .i64 a0_0, .int .i64 a0_1] 25 (0, 0)) (by (with_reducible repeat (first | refine blk_drewN ?_ _ | refine blk_drew ?_ | refine blk_alloc ?_ _)); exact BK146.out)) : gb147 ≠ gb146)); clear BK146; clear HB; have BK146 := n0_; have HB := n1_; have BK147 := n2_; have GW147 := n3_; have GE147 := n4_; have NB146_147 := n5_; have NB147_146 := n6_; clear n0_ n1_ n2_ n3_ n4_ n5_ n6_; clear hb hbox hg; have hnb20 := NB146_147.out; have hnc20 := NB147_146.out; have hcz21_0 : w19.cell? ⟨gb146, 0, none⟩ = some (.int .i64 a0_0) := (blk_cell BK146.out 0).trans rfl; have hcz21_1 : w19.cell? ⟨gb146, 1, none⟩ = some (.int .i64 a0_1) := (blk_cell BK146.out 1).trans rfl; have hfz21_0 := blk_frozen BK146.out 0; have hfz21_1 := blk_frozen BK146.out 1) | ((with_reducible refine gate_dst (N := 7) rfl ?_); refine Kd.R_lit k25 _ 25 ?hg (N := 7) ?hd (xs := ([(⟨a0_0, a0_1⟩ : S25)] : List (S25))) (inner := [.int .i64 a0_0, .int .i64 a0_1]) (ok := fun _ => True) (okp := fun _ => True) ?hr ?hp (fun _ hk => hk) trivial (Below.refl _ _) (Nat.le_refl _) (by simp) ?_; (case hd => rfl); (case hg => rfl); (case hr => first | (go_simp; done) | (go_simp; rfl)); (case hp => exact (Reps.c2 (show Kd.M k25 _ _ _ (⟨a0_0, a0_1⟩ : S25) [.int .i64 a0_0, .int .i64 a0_1] from (k25_mkM _ _ _ (⟨a0_0, a0_1⟩ : S25) )) (Reps.none _ _))); intro v149 w22 ho23 hb hg_ hnew_; clear hg_ hnew_; (first | rw [← Ny148.out] at ho23 | (simp only [Int.reduceToNat] at ho23; rw [← Ny148.out] at ho23)); have n0_ := Aside0.mk (Kd.R_lower (Kd.R_newB (Kd.R_newB ho23 (g := gb146) (o := .cells #[.int .i64 a0_0, .int .i64 a0_1] 25 (0, 0)) (by (with_reducible repeat (first | refine blk_drewN ?_ _ | refine blk_drew ?_ | refine blk_alloc ?_ _)); exact BK146.out)) (g := gb147) (o := .cells #[.int .i64 0, .int .i64 0] 25 (0, 0)) (by (with_reducible repeat (first | refine blk_drewN ?_ _ | refine blk_drew ?_ | refine blk_alloc ?_ _)); exact BK147.out)) (below_size (by repeat (first | (with_reducible first | exact HB.out | apply below_alloc | apply pw_below_drewN | apply below_drew1 | refine below_set ?_ GE146.out | refine below_set ?_ GE147.out) | exact HB.out)))); have n1_ := Aside0.mk (blk_below (g := gb146) (o := .cells #[.int .i64 a0_0, .int .i64 a0_1] 25 (0, 0)) (by (with_reducible repeat (first | refine blk_drewN ?_ _ | refine blk_drew ?_ | refine blk_alloc ?_ _)); exact BK146.out) hb); have n2_ := Aside0.mk (blk_below (g := gb147) (o := .cells #[.int .i64 0, .int .i64 0] 25 (0, 0)) (by (with_reducible repeat (first | refine blk_drewN ?_ _ | refine blk_drew ?_ | refine blk_alloc ?_ _)); exact BK147.out) hb); have n3_ := Aside0.mk (below_step (by repeat (first | (with_reducible first | exact HB.out | apply below_alloc | apply pw_below_drewN | apply below_drew1 | refine below_set ?_ GE146.out | refine below_set ?_ GE147.out) | exact HB.out)) hb); clear BK146; clear BK147; clear HB; have HO150 := n0_; have BK146 := n1_; have BK147 := n2_; have HB := n3_; clear n0_ n1_ n2_ n3_; clear hb ho23; obtain ⟨Ao24, co24, eo24⟩ := Kd.R_slice HO150.out; subst eo24) | ((with_reducible refine gate_callee (f := 66) rfl ?_); refine goesL_ (some 8) rfl rfl Try.func66 (by kernel_rfl) rfl #[.slice Ao24 y148.length co24] rfl (by (try simp only [List.map_toArray, List.map_cons, List.map_nil]); first | done | rfl | (simp only [List.length_drop, List.length_take]; rfl)) ?_; (with_reducible refine (val_odd.calls _ _ y148 t151 t152 false _ ?side1 ?side2 A2.out).mono ?_); (case side1 => repeat (first | exact (Kd.R_reads' HO150.out).2.2 | (with_reducible refine Kd.C_alloc ?_ _) | (with_reducible refine Kd.C_drewN ?_ _) | (with_reducible refine Kd.C_drew ?_))); (case side2 => exact (Kd.R_reads' HO150.out).2.1); rintro e w25 ⟨rfl, hb⟩; refine ⟨_, rfl, ?_⟩; have n0_ := Aside0.mk (Kd.R_below (by (with_reducible repeat (first | apply Kd.R_alloc | apply Kd.R_drewN | apply Kd.R_drew)); exact HO150.out) hb); have n1_ := Aside0.mk (blk_below (g := gb146) (o := .cells #[.int .i64 a0_0, .int .i64 a0_1] 25 (0, 0)) (by (with_reducible repeat (first | refine blk_drewN ?_ _ | refine blk_drew ?_ | refine blk_alloc ?_ _)); exact BK146.out) hb); have n2_ := Aside0.mk (blk_below (g := gb147) (o := .cells #[.int .i64 0, .int .i64 0] 25 (0, 0)) (by (with_reducible repeat (first | refine blk_drewN ?_ _ | refine blk_drew ?_ | refine blk_alloc ?_ _)); exact BK147.out) hb); have n3_ := Aside0.mk (below_step (by repeat (first | (with_reducible first | exact HB.out | apply below_alloc | apply pw_below_drewN | apply below_drew1 | refine below_set ?_ GE146.out | refine below_set ?_ GE147.out) | exact HB.out)) hb); clear HO150; clear BK146; clear BK147; clear HB; have HO150 := n0_; have BK146 := n1_; have BK147 := n2_; have HB := n3_; clear n0_ n1_ n2_ n3_; (try clear hb); (try clear hb2); (try clear hk); (try clear hi)) | ((with_reducible refine gate_dst (N := 3) rfl ?_); refine box_event ?hg (N := 3) ?hd (cs := #[.int .i64 0, .int .i64 0]) (t := 25) ?hr ?_; (case hd => rfl); (case hg => rfl); (case hr => first | (go_simp; done) | (go_simp; rfl)); intro gb154 hg w26 hbox hb; have n0_ := Aside0.mk (Kd.R_below (Kd.R_elderB (by (with_reducible repeat (first | apply Kd.R_alloc | apply Kd.R_drewN | apply Kd.R_drew)); exact HO150.out) gb154 (Nat.le_of_eq hg.symm)) hb); have n1_ := Aside0.mk (blk_below (g := gb146) (o := .cells #[.int .i64 a0_0, .int .i64 a0_1] 25 (0, 0)) (by (with_reducible repeat (first | refine blk_drewN ?_ _ | refine blk_drew ?_ | refine blk_alloc ?_ _)); exact BK146.out) hb); have n2_ := Aside0.mk (blk_below (g := gb147) (o := .cells #[.int .i64 0, .int .i64 0] 25 (0, 0)) (by (with_reducible repeat (first | refine blk_drewN ?_ _ | refine blk_drew ?_ | refine blk_alloc ?_ _)); exact BK147.out) hb); have n3_ := Aside0.mk (below_step (by repeat (first | (with_reducible first | exact HB.out | apply below_alloc | apply pw_below_drewN | apply below_drew1 | refine below_set ?_ GE146.out | refine below_set ?_ GE147.out) | exact HB.out)) hb); have n4_ := Aside0.mk (hbox); have n5_ := Aside0.mk ((by rw [hg]; exact (below_size (by repeat (first | (with_reducible first | exact HB.out | apply below_alloc | apply pw_below_drewN | apply below_drew1 | refine below_set ?_ GE146.out | refine below_set ?_ GE147.out) | exact HB.out))) : w.heap.size ≤ gb154)); have n6_ := Aside0.mk ((by rw [hg]; exact (below_size (by repeat (first | (with_reducible first | exact HB.out | apply below_alloc | apply pw_below_drewN | apply below_drew1 | refine below_set ?_ GE146.out | refine below_set ?_ GE147.out) | exact HB.out))) : w.heap.size ≤ gb154)); have n7_ := Aside0.mk ((by rw [hg]; exact Nat.ne_of_lt (blk_lt (g := gb146) (o := .cells #[.int .i64 a0_0, .int .i64 a0_1] 25 (0, 0)) (by (with_reducible repeat (first | refine blk_drewN ?_ _ | refine blk_drew ?_ | refine blk_alloc ?_ _)); exact BK146.out)) : gb146 ≠ gb154)); have n8_ := Aside0.mk ((by rw [hg]; exact Nat.ne_of_gt (blk_lt (g := gb146) (o := .cells #[.int .i64 a0_0, .int .i64 a0_1] 25 (0, 0)) (by (with_reducible repeat (first | refine blk_drewN ?_ _ | refine blk_drew ?_ | refine blk_alloc ?_ _)); exact BK146.out)) : gb154 ≠ gb146)); have n9_ := Aside0.mk ((by rw [hg]; exact Nat.ne_of_lt (blk_lt (g := gb147) (o := .cells #[.int .i64 0, .int .i64 0] 25 (0, 0)) (by (with_reducible repeat (first | refine blk_drewN ?_ _ | refine blk_drew ?_ | refine blk_alloc ?_ _)); exact BK147.out)) : gb147 ≠ gb154)); have n10_ := Aside0.mk ((by rw [hg]; exact Nat.ne_of_gt (blk_lt (g := gb147) (o := .cells #[.int .i64 0, .int .i64 0] 25 (0, 0)) (by (with_reducible repeat (first | refine blk_drewN ?_ _ | refine blk_drew ?_ | refine blk_alloc ?_ _)); exact BK147.out)) : gb154 ≠ gb147)); clear HO150; clear BK146; clear BK147; clear HB; have HO150 := n0_; have BK146 := n1_; have BK147 := n2_; have HB := n3_; have BK154 := n4_; have GW154 := n5_; have GE154 := n6_; have NB146_154 := n7_; have NB154_146 := n8_; have NB147_154 := n9_; have NB154_147 := n10_; clear n0_ n1_ n2_ n3_ n4_ n5_ n6_ n7_ n8_ n9_ n10_; clear hb hbox hg; have hnb27 := NB154_146.out; have hnc27 := NB146_154.out; have hnb28 := NB154_147.out; have hnc28 := NB147_154.out; have hcz29_0 : w26.cell? ⟨gb154, 0, none⟩ = some (.int .i64 0) := (blk_cell BK154.out 0).trans rfl; have hcz29_1 : w26.cell? ⟨gb154, 1, none⟩ = some (.int .i64 0) := (blk_cell BK154.out 1).trans rfl; have hfz29_0 := blk_frozen BK154.out 0; have hfz29_1 := blk_frozen BK154.out 1; have hcz30_0 : w26.cell? ⟨gb146, 0, none⟩ = some (.int .i64 a0_0) := (blk_cell BK146.out 0).trans rfl; have hcz30_1 : w26.cell? ⟨gb146, 1, none⟩ = some (.int .i64 a0_1) := (blk_cell BK146.out 1).trans rfl; have hfz30_0 := blk_frozen BK146.out 0; have hfz30_1 := blk_frozen BK146.out 1) | ((with_reducible refine gate_callee (f := 67) rfl ?_); refine goesL_ (some 16) rfl rfl Try.func67 (by kernel_rfl) rfl #[.bool (a0_1 == 0)] rfl (by (try simp only [List.map_toArray, List.map_cons, List.map_nil]); first | done | rfl | (simp only [List.length_drop, List.length_take]; rfl)) ?_; (with_reducible refine (val_of.calls (a0_1 == 0) t155 t156 _ A17.out).mono ?_); rintro e w31 ⟨rfl, hb⟩; refine ⟨_, rfl, ?_⟩; have n0_ := Aside0.mk (Kd.R_below (by (with_reducible repeat (first | apply Kd.R_alloc | apply Kd.R_drewN | apply Kd.R_drew)); exact (Kd.R_mono (Kd.R_far (p := ⟨gb154, 1, none⟩) (Kd.R_far (p := ⟨gb154, 0, none⟩) (Kd.R_mono HO150.out (fun k_ hk => (⟨hk, hk.2⟩ : _ ∧ k_ ≠ gb154))) (fun _ hk => hk.2) (.int .i64 t151)) (fun _ hk => hk.2) (.int .i64 t152)) (fun _ h_ => h_.1))) hb); have n1_ := Aside0.mk (blk_below (g := gb146) (o := .cells #[.int .i64 a0_0, .int .i64 a0_1] 25 (0, 0)) (by (with_reducible repeat (first | refine blk_drewN ?_ _ | refine blk_drew ?_ | refine blk_alloc ?_ _)); refine blk_far ?_ NB146_154.out _; (with_reducible repeat (first | refine blk_drewN ?_ _ | refine blk_drew ?_ | refine blk_alloc ?_ _)); refine blk_far ?_ NB146_154.out _; (with_reducible repeat (first | refine blk_drewN ?_ _ | refine blk_drew ?_ | refine blk_alloc ?_ _)); exact BK146.out) hb); have n2_ := Aside0.mk (blk_below (g := gb147) (o := .cells #[.int .i64 0, .int .i64 0] 25 (0, 0)) (by (with_reducible repeat (first | refine blk_drewN ?_ _ | refine blk_drew ?_ | refine blk_alloc ?_ _)); refine blk_far ?_ NB147_154.out _; (with_reducible repeat (first | refine blk_drewN ?_ _ | refine blk_drew ?_ | refine blk_alloc ?_ _)); refine blk_far ?_ NB147_154.out _; (with_reducible repeat (first | refine blk_drewN ?_ _ | refine blk_drew ?_ | refine blk_alloc ?_ _)); exact BK147.out) hb); have n3_ := Aside0.mk (blk_below (g := gb154) (o := .cells #[.int .i64 t151, .int .i64 t152] 25 (0, 0)) (by (with_reducible repeat (first | refine blk_drewN ?_ _ | refine blk_drew ?_ | refine blk_alloc ?_ _)); refine blk_put (cs := #[.int .i64 t151, .int .i64 0]) ?_ 1 _ rfl; (with_reducible repeat (first | refine blk_drewN ?_ _ | refine blk_drew ?_ | refine blk_alloc ?_ _)); refine blk_put (cs := #[.int .i64 0, .int .i64 0]) ?_ 0 _ rfl; (with_reducible repeat (first | refine blk_drewN ?_ _ | refine blk_drew ?_ | refine blk_alloc ?_ _)); exact BK154.out) hb); have n4_ := Aside0.mk (below_step (by repeat (first | (with_reducible first | exact HB.out | apply below_alloc | apply pw_below_drewN | apply below_drew1 | refine below_set ?_ GE146.out | refine below_set ?_ GE147.out | refine below_set ?_ GE154.out) | exact HB.out)) hb); clear HO150; clear BK146; clear BK147; clear BK154; clear HB; have HO150 := n0_; have BK146 := n1_; have BK147 := n2_; have BK154 := n3_; have HB := n4_; clear n0_ n1_ n2_ n3_ n4_; (try clear hb); (try clear hb2); (try clear hk); (try clear hi); have hcz32_0 : w31.cell? ⟨gb147, 0, none⟩ = some (.int .i64 0) := (blk_cell BK147.out 0).trans rfl; have hcz32_1 : w31.cell? ⟨gb147, 1, none⟩ = some (.int .i64 0) := (blk_cell BK147.out 1).trans rfl; have hfz32_0 := blk_frozen BK147.out 0; have hfz32_1 := blk_frozen BK147.out 1))
    refine bodyPost_ret (results_cell_row rfl _ _ gb147 25 #[.int .i64 t155, .int .i64 t156] (0, 0) _ rfl (by (with_reducible repeat (first | refine blk_drewN ?_ _ | refine blk_drew ?_ | refine blk_alloc ?_ _)); refine blk_put (cs := #[.int .i64 t155, .int .i64 0]) ?_ 1 _ rfl; (with_reducible repeat (first | refine blk_drewN ?_ _ | refine blk_drew ?_ | refine blk_alloc ?_ _)); refine blk_put (cs := #[.int .i64 0, .int .i64 0]) ?_ 0 _ rfl; (with_reducible repeat (first | refine blk_drewN ?_ _ | refine blk_drew ?_ | refine blk_alloc ?_ _)); exact BK147.out) Try.underlying25 rfl (by kernel_rfl)) rfl ?_
    exact ⟨by first | rfl | (simp [errW_none, errW_some] <;> rfl) | (simp [*, errW_none, errW_some] <;> rfl) | (clear HB; simp only [aside0_iff] at *; simp_all; done), by repeat (first | (with_reducible first | exact HB.out | apply below_alloc | apply pw_below_drewN | apply below_drew1 | refine below_set ?_ GE146.out | refine below_set ?_ GE147.out | refine below_set ?_ GE154.out) | exact HB.out)⟩

/-! ### val_Or: function 20 -/


/-! ### roadbooklaw01_ValMorgan: function 3 -/
mutual
def roadbooklaw01_ValMorgan.j0 : Nat → List (S25) → Bool → Bool → Option (Bool)
  | 0, _, _, _ => none
  | k + 1, x0, x3, x13 => if x13 = true then (some x3) else (roadbooklaw01_ValMorgan.l0 k x0 ([] : List (S25)) 0)
def roadbooklaw01_ValMorgan.l0 : Nat → List (S25) → List (S25) → Int → Option (Bool)
  | 0, _, _, _ => none
  | k + 1, x0, x4, x5 => if x5 < (x0.length : Int) then (if 0 ≤ x5 then ((val_Not.f ((rd_T25 x0 x5).f0) ((rd_T25 x0 x5).f1)).bind fun bt159 => (if x4.length < 8796093022208 then (roadbooklaw01_ValMorgan.l0 k x0 (x4 ++ [(⟨bt159.1, bt159.2⟩ : S25)]) (wrap64 (x5 + 1))) else (none))) else (none)) else ((val_And.f x0).bind fun bt164 => ((val_Not.f bt164.1 bt164.2).bind fun bt166 => ((val_Or.f x4).bind fun bt168 => (if (bt166.1 == bt168.1 && (bt166.2 == bt168.2)) = true then ((val_Or.f x0).bind fun bt170 => ((val_Not.f bt170.1 bt170.2).bind fun bt172 => ((val_And.f x4).bind fun bt174 => (some (bt172.1 == bt174.1 && (bt172.2 == bt174.2)))))) else (some false)))))
end
def roadbooklaw01_ValMorgan.f (k : Nat) (l0 : List (S25)) : Option (Bool) := (roadbooklaw01_awake.f).bind fun t157 => (if t157 = true then (roadbooklaw01_ValMorgan.j0 k l0 t157 (decide ((l0.length : Int) > 1000))) else (roadbooklaw01_ValMorgan.j0 k l0 t157 true))
theorem roadbooklaw01_ValMorgan.mono_l : ∀ k, (∀ y0 y1 y2, LeO (roadbooklaw01_ValMorgan.j0 k y0 y1 y2) (roadbooklaw01_ValMorgan.j0 (k + 1) y0 y1 y2)) ∧ (∀ y0 y1 y2, LeO (roadbooklaw01_ValMorgan.l0 k y0 y1 y2) (roadbooklaw01_ValMorgan.l0 (k + 1) y0 y1 y2))
  | 0 => ⟨fun _ _ _ r h => by simp [roadbooklaw01_ValMorgan.j0] at h, fun _ _ _ r h => by simp [roadbooklaw01_ValMorgan.l0] at h⟩
  | k + 1 => by
    obtain ⟨ih0, ih1⟩ := roadbooklaw01_ValMorgan.mono_l k
    refine ⟨?_, ?_⟩
    · intro y0 y1 y2
      unfold roadbooklaw01_ValMorgan.j0
      repeat' first
      | (with_reducible exact ih0 _ _ _)
      | (with_reducible exact ih1 _ _ _)
      | (with_reducible exact LeO.refl _)
      | (with_reducible exact LeO.none _)
      | (with_reducible refine LeO.ite ?_ ?_)
      | (with_reducible refine LeO.bind ?_ (fun _ => ?_))
      | exact ih0 _ _ _
      | exact ih1 _ _ _
      | exact LeO.none _
      | refine LeO.ite ?_ ?_
      | refine LeO.bind ?_ (fun _ => ?_)
    · intro y0 y1 y2
      unfold roadbooklaw01_ValMorgan.l0
      repeat' first
      | (with_reducible exact ih0 _ _ _)
      | (with_reducible exact ih1 _ _ _)
      | (with_reducible exact LeO.refl _)
      | (with_reducible exact LeO.none _)
      | (with_reducible refine LeO.ite ?_ ?_)
      | (with_reducible refine LeO.bind ?_ (fun _ => ?_))
      | exact ih0 _ _ _
      | exact ih1 _ _ _
      | exact LeO.none _
      | refine LeO.ite ?_ ?_
      | refine LeO.bind ?_ (fun _ => ?_)
theorem roadbooklaw01_ValMorgan.mono : ∀ a0 k, LeO (roadbooklaw01_ValMorgan.f k a0) (roadbooklaw01_ValMorgan.f (k + 1) a0) := by
  intro a0 k
  obtain ⟨ih0, ih1⟩ := roadbooklaw01_ValMorgan.mono_l k
  unfold roadbooklaw01_ValMorgan.f
  repeat' first
      | (with_reducible exact ih0 _ _ _)
      | (with_reducible exact ih1 _ _ _)
      | (with_reducible exact LeO.refl _)
      | (with_reducible exact LeO.none _)
      | (with_reducible refine LeO.ite ?_ ?_)
      | (with_reducible refine LeO.bind ?_ (fun _ => ?_))
      | exact ih0 _ _ _
      | exact ih1 _ _ _
      | exact LeO.none _
      | refine LeO.ite ?_ ?_
      | refine LeO.bind ?_ (fun _ => ?_)
set_option maxHeartbeats 8000000 in
set_option maxRecDepth 100000 in
theorem roadbooklaw01_ValMorgan.calls (k : Nat) (A0 : Option Addr) (c0 : Nat) (l0 : List (S25)) (r : Bool) (w : World) (hr0 : Kd.C k25 w A0 l0.length l0) (hc0 : l0.length ≤ c0) (h : roadbooklaw01_ValMorgan.f k l0 = some r) :
    Calls Try.prog 3 #[.slice A0 l0.length c0] w fun e w' => e = .returned (.bool r) ∧ Below w.heap.size w w' := by
  have hu25 := Try.underlying25
  have HR0 := Aside0.mk hr0
  have HC0 := Aside0.mk hc0
  clear hr0 hc0
  have HB := Aside0.mk (Below.refl w.heap.size w)
  have H : ((roadbooklaw01_awake.f).bind fun t157 => (if t157 = true then (roadbooklaw01_ValMorgan.j0 k l0 t157 (decide ((l0.length : Int) > 1000))) else (roadbooklaw01_ValMorgan.j0 k l0 t157 true))) = some r := h
  clear h
  replace H := Option.bind_eq_some_iff.mp H
  obtain ⟨t157, A20, H⟩ := H
  replace H : (if t157 = true then (roadbooklaw01_ValMorgan.j0 k l0 t157 (decide ((l0.length : Int) > 1000))) else (roadbooklaw01_ValMorgan.j0 k l0 t157 true)) = some r := H
  have A2 := Aside0.mk A20
  clear A20
  have HC3 := Aside0.mk H
  clear H
  go_enter Try.func3, Try.ntmps3
  go_upto_region 2 with (first | ((with_reducible refine gate_callee (f := 17) rfl ?_); refine goesL_ (some 6) rfl rfl Try.func17 (by kernel_rfl) rfl #[] rfl (by (try simp only [List.map_toArray, List.map_cons, List.map_nil]); first | done | rfl | (simp only [List.length_drop, List.length_take]; rfl)) ?_; (with_reducible refine (roadbooklaw01_awake.calls  t157 _ A2.out).mono ?_); rintro e w4 ⟨rfl, hb⟩; refine ⟨_, rfl, ?_⟩; have n0_ := Aside0.mk (below_step (by repeat (first | (with_reducible first | exact HB.out | apply below_alloc | apply pw_below_drewN | apply below_drew1) | exact HB.out)) hb); clear HB; have HB := n0_; clear n0_; (try clear hb); (try clear hb2); (try clear hk); (try clear hi)))
  (try simp only [Act.put, List.setIfInBounds_toArray, List.set_cons_zero, List.set_cons_succ])
  go_cut [13] (fun v13 wc => ∃ (kq : Nat) (x13_2 : Bool), v13 = .bool x13_2 ∧ Aside0 (roadbooklaw01_ValMorgan.j0 kq l0 t157 x13_2 = some r) ∧ Aside0 (kq ≤ k) ∧ Aside0 (Below w.heap.size w wc))
  case first =>
    have H := HC3.out
    clear HC3
    by_cases c5 : t157 = true
    · subst c5
      have H1 : (roadbooklaw01_ValMorgan.j0 k l0 true (decide ((l0.length : Int) > 1000))) = some r := by rw [if_pos rfl] at H; exact H
      clear H
      have H := H1
      clear H1
      have H' := Aside0.mk H
      clear H
      go_wp2
      go_meet
      case rel => exact ⟨_, (decide ((l0.length : Int) > 1000)), (by first | rfl | (simp; done) | (simp [*]; done)), H', ⟨by first | omega | exact Nat.le_refl _⟩, ⟨by repeat (first | (with_reducible first | exact HB.out | apply below_alloc | apply pw_below_drewN | apply below_drew1) | exact HB.out)⟩⟩
    · replace c5 := Bool.eq_false_iff.mpr c5
      subst c5
      have H1 : (roadbooklaw01_ValMorgan.j0 k l0 false true) = some r := by rw [if_neg (show ¬ (false = true) by decide)] at H; exact H
      clear H
      have H := H1
      clear H1
      have H' := Aside0.mk H
      clear H
      go_wp2
      go_meet
      case rel => exact ⟨_, (true), (by first | rfl | (simp; done) | (simp [*]; done)), H', ⟨by first | omega | exact Nat.le_refl _⟩, ⟨by repeat (first | (with_reducible first | exact HB.out | apply below_alloc | apply pw_below_drewN | apply below_drew1) | exact HB.out)⟩⟩
  case rest =>
    clear HC3
    try clear c1
    try clear p2
    try clear c3
    try clear c5
    obtain ⟨kq, x13_2, rfl, HA, HJ2, HB⟩ := hcut
    cases kq with
    | zero => exact absurd HA.out (by simp [roadbooklaw01_ValMorgan.j0])
    | succ kj2 =>
      have H := HA.out
      clear HA
      simp only [roadbooklaw01_ValMorgan.j0] at H
      by_cases c6 : x13_2 = true
      · subst c6
        have H1 : (some t157) = some r := by rw [if_pos rfl] at H; exact H
        clear H
        have H := H1
        clear H1
        obtain rfl := Option.some.inj H
        go_wp2
        go_ret
        exact ⟨by first | rfl | (simp [errW_none, errW_some] <;> rfl) | (simp [*, errW_none, errW_some] <;> rfl) | (clear HB; simp only [aside0_iff] at *; simp_all; done), by repeat (first | (with_reducible first | exact HB.out | apply below_alloc | apply pw_below_drewN | apply below_drew1) | exact HB.out)⟩
      · replace c6 := Bool.eq_false_iff.mpr c6
        subst c6
        have H1 : (roadbooklaw01_ValMorgan.l0 kj2 l0 ([] : List (S25)) 0) = some r := by rw [if_neg (show ¬ (false = true) by decide)] at H; exact H
        clear H
        have H := H1
        clear H1
        have H' := Aside0.mk H
        clear H
        go_wp2
        go_loopg [4, 5] kj2 (fun kq v4 v5 w' => ∃ (x4_2 : List (S25)) (x5_2 : Int), v5 = .int .i64 x5_2 ∧ Aside0 (roadbooklaw01_ValMorgan.l0 kq l0 x4_2 x5_2 = some r) ∧ Aside0 (kq ≤ kj2) ∧ Aside0 (Kd.R k25 25 w' w.heap.size (fun _ => True) v4 x4_2) ∧ Aside0 (Below w.heap.size w w'))
        case atStart => exact ⟨(([] : List (S25))), (0), (by first | rfl | (simp; done) | (simp [*]; done)), H', ⟨Nat.le_refl _⟩, ⟨by first | exact Kd.R_nil _ _ _ _ _ | exact Kd.N_nil _ _ _ _ _ | exact Kd.V_nil _ _ _ _ _ | exact Kd.Q_nil _ _ _ _ _ | exact Kd.S_nil _ _ _ _ _⟩, ⟨by repeat (first | (with_reducible first | exact HB.out | apply below_alloc | apply pw_below_drewN | apply below_drew1) | exact HB.out)⟩⟩
        case round =>
          clear H'
          try clear c1
          try clear p2
          try clear c3
          try clear c5
          try clear c6
          try clear p2
          obtain ⟨x4_2, x5_2, rfl, HA, HK2, HO_4, HB⟩ := hrel
          cases gk with
          | zero => exact absurd HA.out (by simp [roadbooklaw01_ValMorgan.l0])
          | succ k2 =>
            have H := HA.out
            clear HA
            simp only [roadbooklaw01_ValMorgan.l0] at H
            by_cases c7 : x5_2 < (l0.length : Int)
            · rw [if_pos c7] at H
              have c7b0 : decide (x5_2 < (l0.length : Int)) = true := decide_eq_true c7
              clear c7
              by_cases c8 : 0 ≤ x5_2
              · rw [if_pos c8] at H
                have c8b0 : decide (0 ≤ x5_2) = true := decide_eq_true c8
                clear c8
                replace H := Option.bind_eq_some_iff.mp H
                obtain ⟨⟨t159, t160⟩, A90, H⟩ := H
                replace H : (if x4_2.length < 8796093022208 then (roadbooklaw01_ValMorgan.l0 k2 l0 (x4_2 ++ [(⟨t159, t160⟩ : S25)]) (wrap64 (x5_2 + 1))) else (none)) = some r := H
                have A9 := Aside0.mk A90
                clear A90
                by_cases c10 : x4_2.length < 8796093022208
                · rw [if_pos c10] at H
                  have LMc10 := Aside0.mk c10
                  clear c10
                  obtain ⟨y161, hy161⟩ : ∃ y_ : List (S25), y_ = (x4_2 ++ [(⟨t159, t160⟩ : S25)]) := ⟨_, rfl⟩
                  replace H : (roadbooklaw01_ValMorgan.l0 k2 l0 y161 (wrap64 (x5_2 + 1))) = some r := by first | (rw [hy161]; with_reducible exact H) | (have H2_ := (Option.bind_some _ _).symm.trans H; rw [hy161]; with_reducible exact H2_) | (have H2_ := (Option.bind_some _ _).symm.trans H; with_reducible exact H2_) | with_reducible exact H | (rw [hy161]; exact H) | exact H
                  have Ny161 := Aside0.mk hy161
                  clear hy161
                  have H' := Aside0.mk H
                  clear H
                  have p158 : 0 ≤ (x5_2 : Int) := of_decide_eq_true (by first | (with_reducible assumption) | assumption)
                  have q158 : x5_2 < (l0.length : Int) := of_decide_eq_true (by first | (with_reducible assumption) | assumption)
                  obtain ⟨ad158, e158, hx158_0, hx158_1⟩ := at_T25 HR0.out x5_2 p158 q158
                  cases e158
                  replace hx158_0 := (HB.out.cell (World.block_lt_of_cell? w _ hx158_0)).trans hx158_0
                  replace hx158_1 := (HB.out.cell (World.block_lt_of_cell? w _ hx158_1)).trans hx158_1
                  replace p158 := eq_true p158
                  replace q158 := eq_true q158
                  go_wp2_with (first | ((with_reducible refine gate_callee (f := 18) rfl ?_); refine goesL_ (some 26) rfl rfl Try.func18 (by kernel_rfl) rfl #[.agg #[.int .i64 ((rd_T25 l0 x5_2).f0), .int .i64 ((rd_T25 l0 x5_2).f1)]] rfl (by (try simp only [List.map_toArray, List.map_cons, List.map_nil]); first | done | rfl | (simp only [List.length_drop, List.length_take]; rfl)) ?_; (with_reducible refine (val_Not.calls ((rd_T25 l0 x5_2).f0) ((rd_T25 l0 x5_2).f1) t159 t160 _ A9.out).mono ?_); rintro e w11 ⟨rfl, hb⟩; refine ⟨_, rfl, ?_⟩; have n0_ := Aside0.mk (Kd.R_below (by (with_reducible repeat (first | apply Kd.R_alloc | apply Kd.R_drewN | apply Kd.R_drew)); exact HO_4.out) hb); have n1_ := Aside0.mk (below_step (by repeat (first | (with_reducible first | exact HB.out | apply below_alloc | apply pw_below_drewN | apply below_drew1) | exact HB.out)) hb); clear HO_4; clear HB; have HO_4 := n0_; have HB := n1_; clear n0_ n1_; (try clear hb); (try clear hb2); (try clear hk); (try clear hi)) | ((with_reducible refine gate_builtin (b := .append) (xs := #[.tmp 21, .tmp 27]) rfl ?_); (try (refine gate_guard (by rfl) ?_; dsimp only)); at_builtin; refine Kd.R_append k25 (w0 := w) w.heap.size rfl (.tmp 21) (.tmp 27) 22 25 (.agg #[(.int .i64 0), (.int .i64 0)]) 16 rfl Try.underlying22 info25 rfl (by decide) (by omega) u4 x4_2 (⟨t159, t160⟩ : S25) [.int .i64 t159, .int .i64 t160] (fun _ => True) (fun _ => False) rfl rfl ?aP (fun _ hk => hk.elim) ?aF ?aO ?aB ?aS ?aL ?_; (case aP => exact k25_mkM _ _ _ (⟨t159, t160⟩ : S25)); (case aB => exact (by repeat (first | (with_reducible first | exact HB.out | apply below_alloc | apply pw_below_drewN | apply below_drew1) | exact HB.out))); (case aF => exact (fun _ _ => trivial)); (case aO => exact (by (with_reducible repeat (first | apply Kd.R_alloc | apply Kd.R_drewN | apply Kd.R_drew)); exact HO_4.out)); (case aS => exact (below_size (by repeat (first | (with_reducible first | exact HB.out | apply below_alloc | apply pw_below_drewN | apply below_drew1) | exact HB.out)))); (case aL => have := LMc10.out; omega); intro v162 w12 ho hb hg hat; rw [← Ny161.out] at ho; have n0_ := Aside0.mk (hb); have n1_ := Aside0.mk (ho); clear HB; clear HO_4; have HB := n0_; have HO163 := n1_; clear n0_ n1_; clear ho hb hg hat))
                  go_roundg k2
                  case measure => have := HJ2.out; have := HK2.out; omega
                  case rel => exact ⟨(y161), (wrap64 (x5_2 + 1)), (by first | rfl | (simp; done) | (simp [*]; done)), H', ⟨by have := HJ2.out; have := HK2.out; omega⟩, ⟨by (with_reducible repeat (first | apply Kd.R_alloc | apply Kd.R_drewN | apply Kd.R_drew)); exact HO163.out⟩, ⟨by repeat (first | (with_reducible first | exact HB.out | apply below_alloc | apply pw_below_drewN | apply below_drew1) | exact HB.out)⟩⟩
                · rw [if_neg c10] at H
                  exact absurd H (by simp)
              · rw [if_neg c8] at H
                exact absurd H (by simp)
            · rw [if_neg c7] at H
              have c7b0 : decide (x5_2 < (l0.length : Int)) = false := decide_eq_false c7
              clear c7
              replace H := Option.bind_eq_some_iff.mp H
              obtain ⟨⟨t164, t165⟩, A130, H⟩ := H
              replace H : ((val_Not.f t164 t165).bind fun bt166 => ((val_Or.f x4_2).bind fun bt168 => (if (bt166.1 == bt168.1 && (bt166.2 == bt168.2)) = true then ((val_Or.f l0).bind fun bt170 => ((val_Not.f bt170.1 bt170.2).bind fun bt172 => ((val_And.f x4_2).bind fun bt174 => (some (bt172.1 == bt174.1 && (bt172.2 == bt174.2)))))) else (some false)))) = some r := H
              have A13 := Aside0.mk A130
              clear A130
              replace H := Option.bind_eq_some_iff.mp H
              obtain ⟨⟨t166, t167⟩, A140, H⟩ := H
              replace H : ((val_Or.f x4_2).bind fun bt168 => (if (t166 == bt168.1 && (t167 == bt168.2)) = true then ((val_Or.f l0).bind fun bt170 => ((val_Not.f bt170.1 bt170.2).bind fun bt172 => ((val_And.f x4_2).bind fun bt174 => (some (bt172.1 == bt174.1 && (bt172.2 == bt174.2)))))) else (some false))) = some r := H
              have A14 := Aside0.mk A140
              clear A140
              replace H := Option.bind_eq_some_iff.mp H
              obtain ⟨⟨t168, t169⟩, A150, H⟩ := H
              replace H : (if (t166 == t168 && (t167 == t169)) = true then ((val_Or.f l0).bind fun bt170 => ((val_Not.f bt170.1 bt170.2).bind fun bt172 => ((val_And.f x4_2).bind fun bt174 => (some (bt172.1 == bt174.1 && (bt172.2 == bt174.2)))))) else (some false)) = some r := H
              have A15 := Aside0.mk A150
              clear A150
              by_cases c16 : (t166 == t168 && (t167 == t169)) = true
              · rw [if_pos c16] at H
                have c16b0 : (t166 == t168 && (t167 == t169)) = true := c16
                (try (have c16b1 : decide (t166 = t168 && (t167 == t169)) = true := by simpa using c16))
                (try (have c16b2 : (t166 == t168 && (t167 == t169)) = true := by simpa using c16))
                clear c16
                replace H := Option.bind_eq_some_iff.mp H
                obtain ⟨⟨t170, t171⟩, A170, H⟩ := H
                replace H : ((val_Not.f t170 t171).bind fun bt172 => ((val_And.f x4_2).bind fun bt174 => (some (bt172.1 == bt174.1 && (bt172.2 == bt174.2))))) = some r := H
                have A17 := Aside0.mk A170
                clear A170
                replace H := Option.bind_eq_some_iff.mp H
                obtain ⟨⟨t172, t173⟩, A180, H⟩ := H
                replace H : ((val_And.f x4_2).bind fun bt174 => (some (t172 == bt174.1 && (t173 == bt174.2)))) = some r := H
                have A18 := Aside0.mk A180
                clear A180
                replace H := Option.bind_eq_some_iff.mp H
                obtain ⟨⟨t174, t175⟩, A190, H⟩ := H
                replace H : (some (t172 == t174 && (t173 == t175))) = some r := H
                have A19 := Aside0.mk A190
                clear A190
                obtain rfl := Option.some.inj H
                go_wp2_with (first | ((with_reducible refine gate_callee (f := 19) rfl ?_); refine goesL_ (some 30) rfl rfl Try.func19 (by kernel_rfl) rfl #[.slice A0 l0.length c0] rfl (by (try simp only [List.map_toArray, List.map_cons, List.map_nil]); first | done | rfl | (simp only [List.length_drop, List.length_take]; rfl)) ?_; (with_reducible refine (val_And.calls _ _ l0 t164 t165 _ ?side1 ?side2 A13.out).mono ?_); (case side1 => repeat (first | exact (Kd.C_below HR0.out HB.out) | (with_reducible refine Kd.C_alloc ?_ _) | (with_reducible refine Kd.C_drewN ?_ _) | (with_reducible refine Kd.C_drew ?_))); (case side2 => exact HC0.out); rintro e w20 ⟨rfl, hb⟩; refine ⟨_, rfl, ?_⟩; have n0_ := Aside0.mk (Kd.R_below (by (with_reducible repeat (first | apply Kd.R_alloc | apply Kd.R_drewN | apply Kd.R_drew)); exact HO_4.out) hb); have n1_ := Aside0.mk (below_step (by repeat (first | (with_reducible first | exact HB.out | apply below_alloc | apply pw_below_drewN | apply below_drew1) | exact HB.out)) hb); clear HO_4; clear HB; have HO_4 := n0_; have HB := n1_; clear n0_ n1_; (try clear hb); (try clear hb2); (try clear hk); (try clear hi)) | ((with_reducible refine gate_callee (f := 18) rfl ?_); refine goesL_ (some 31) rfl rfl Try.func18 (by kernel_rfl) rfl #[.agg #[.int .i64 t164, .int .i64 t165]] rfl (by (try simp only [List.map_toArray, List.map_cons, List.map_nil]); first | done | rfl | (simp only [List.length_drop, List.length_take]; rfl)) ?_; (with_reducible refine (val_Not.calls t164 t165 t166 t167 _ A14.out).mono ?_); rintro e w21 ⟨rfl, hb⟩; refine ⟨_, rfl, ?_⟩; have n0_ := Aside0.mk (Kd.R_below (by (with_reducible repeat (first | apply Kd.R_alloc | apply Kd.R_drewN | apply Kd.R_drew)); exact HO_4.out) hb); have n1_ := Aside0.mk (below_step (by repeat (first | (with_reducible first | exact HB.out | apply below_alloc | apply pw_below_drewN | apply below_drew1) | exact HB.out)) hb); clear HO_4; clear HB; have HO_4 := n0_; have HB := n1_; clear n0_ n1_; (try clear hb); (try clear hb2); (try clear hk); (try clear hi); obtain ⟨Ao22, co22, eo22⟩ := Kd.R_slice HO_4.out; subst eo22) | ((with_reducible refine gate_callee (f := 20) rfl ?_); refine goesL_ (some 33) rfl rfl Try.func20 (by kernel_rfl) rfl #[.slice Ao22 x4_2.length co22] rfl (by (try simp only [List.map_toArray, List.map_cons, List.map_nil]); first | done | rfl | (simp only [List.length_drop, List.length_take]; rfl)) ?_; (with_reducible refine (val_Or.calls _ _ x4_2 t168 t169 _ ?side1 ?side2 A15.out).mono ?_); (case side1 => repeat (first | exact (Kd.R_reads' HO_4.out).2.2 | (with_reducible refine Kd.C_alloc ?_ _) | (with_reducible refine Kd.C_drewN ?_ _) | (with_reducible refine Kd.C_drew ?_))); (case side2 => exact (Kd.R_reads' HO_4.out).2.1); rintro e w23 ⟨rfl, hb⟩; refine ⟨_, rfl, ?_⟩; have n0_ := Aside0.mk (Kd.R_below (by (with_reducible repeat (first | apply Kd.R_alloc | apply Kd.R_drewN | apply Kd.R_drew)); exact HO_4.out) hb); have n1_ := Aside0.mk (below_step (by repeat (first | (with_reducible first | exact HB.out | apply below_alloc | apply pw_below_drewN | apply below_drew1) | exact HB.out)) hb); clear HO_4; clear HB; have HO_4 := n0_; have HB := n1_; clear n0_ n1_; (try clear hb); (try clear hb2); (try clear hk); (try clear hi)) | (go_at_call 20; (with_reducible refine (val_Or.calls _ _ l0 t170 t171 _ ?side1 ?side2 A17.out).mono ?_); (case side1 => repeat (first | exact (Kd.C_below HR0.out HB.out) | (with_reducible refine Kd.C_alloc ?_ _) | (with_reducible refine Kd.C_drewN ?_ _) | (with_reducible refine Kd.C_drew ?_))); (case side2 => exact HC0.out); rintro e w24 ⟨rfl, hb⟩; have n0_ := Aside0.mk (Kd.R_below (by (with_reducible repeat (first | apply Kd.R_alloc | apply Kd.R_drewN | apply Kd.R_drew)); exact HO_4.out) hb); have n1_ := Aside0.mk (below_step (by repeat (first | (with_reducible first | exact HB.out | apply below_alloc | apply pw_below_drewN | apply below_drew1) | exact HB.out)) hb); clear HO_4; clear HB; have HO_4 := n0_; have HB := n1_; clear n0_ n1_; (try clear hb); (try clear hb2); (try clear hk); (try clear hi)) | (go_at_call 18; (with_reducible refine (val_Not.calls t170 t171 t172 t173 _ A18.out).mono ?_); rintro e w25 ⟨rfl, hb⟩; have n0_ := Aside0.mk (Kd.R_below (by (with_reducible repeat (first | apply Kd.R_alloc | apply Kd.R_drewN | apply Kd.R_drew)); exact HO_4.out) hb); have n1_ := Aside0.mk (below_step (by repeat (first | (with_reducible first | exact HB.out | apply below_alloc | apply pw_below_drewN | apply below_drew1) | exact HB.out)) hb); clear HO_4; clear HB; have HO_4 := n0_; have HB := n1_; clear n0_ n1_; (try clear hb); (try clear hb2); (try clear hk); (try clear hi)) | (go_at_call 19; (with_reducible refine (val_And.calls _ _ x4_2 t174 t175 _ ?side1 ?side2 A19.out).mono ?_); (case side1 => repeat (first | exact (Kd.R_reads' HO_4.out).2.2 | (with_reducible refine Kd.C_alloc ?_ _) | (with_reducible refine Kd.C_drewN ?_ _) | (with_reducible refine Kd.C_drew ?_))); (case side2 => exact (Kd.R_reads' HO_4.out).2.1); rintro e w26 ⟨rfl, hb⟩; have n0_ := Aside0.mk (Kd.R_below (by (with_reducible repeat (first | apply Kd.R_alloc | apply Kd.R_drewN | apply Kd.R_drew)); exact HO_4.out) hb); have n1_ := Aside0.mk (below_step (by repeat (first | (with_reducible first | exact HB.out | apply below_alloc | apply pw_below_drewN | apply below_drew1) | exact HB.out)) hb); clear HO_4; clear HB; have HO_4 := n0_; have HB := n1_; clear n0_ n1_; (try clear hb); (try clear hb2); (try clear hk); (try clear hi)))
                go_ret
                exact ⟨by first | rfl | (simp [errW_none, errW_some] <;> rfl) | (simp [*, errW_none, errW_some] <;> rfl) | (clear HB; simp only [aside0_iff] at *; simp_all; done), by repeat (first | (with_reducible first | exact HB.out | apply below_alloc | apply pw_below_drewN | apply below_drew1) | exact HB.out)⟩
              · rw [if_neg c16] at H
                have c16b0 : (t166 == t168 && (t167 == t169)) = false := by simpa using c16
                (try (have c16b1 : decide (t166 = t168 && (t167 == t169)) = false := by simpa using c16))
                (try (have c16b2 : (t166 == t168 && (t167 == t169)) = false := by simpa using c16))
                (try (have c16b3 : ¬ (t166 = t168 && (t167 == t169)) := by simpa using c16))
                clear c16
                obtain rfl := Option.some.inj H
                go_wp2_with (first | ((with_reducible refine gate_callee (f := 19) rfl ?_); refine goesL_ (some 30) rfl rfl Try.func19 (by kernel_rfl) rfl #[.slice A0 l0.length c0] rfl (by (try simp only [List.map_toArray, List.map_cons, List.map_nil]); first | done | rfl | (simp only [List.length_drop, List.length_take]; rfl)) ?_; (with_reducible refine (val_And.calls _ _ l0 t164 t165 _ ?side1 ?side2 A13.out).mono ?_); (case side1 => repeat (first | exact (Kd.C_below HR0.out HB.out) | (with_reducible refine Kd.C_alloc ?_ _) | (with_reducible refine Kd.C_drewN ?_ _) | (with_reducible refine Kd.C_drew ?_))); (case side2 => exact HC0.out); rintro e w27 ⟨rfl, hb⟩; refine ⟨_, rfl, ?_⟩; have n0_ := Aside0.mk (Kd.R_below (by (with_reducible repeat (first | apply Kd.R_alloc | apply Kd.R_drewN | apply Kd.R_drew)); exact HO_4.out) hb); have n1_ := Aside0.mk (below_step (by repeat (first | (with_reducible first | exact HB.out | apply below_alloc | apply pw_below_drewN | apply below_drew1) | exact HB.out)) hb); clear HO_4; clear HB; have HO_4 := n0_; have HB := n1_; clear n0_ n1_; (try clear hb); (try clear hb2); (try clear hk); (try clear hi)) | ((with_reducible refine gate_callee (f := 18) rfl ?_); refine goesL_ (some 31) rfl rfl Try.func18 (by kernel_rfl) rfl #[.agg #[.int .i64 t164, .int .i64 t165]] rfl (by (try simp only [List.map_toArray, List.map_cons, List.map_nil]); first | done | rfl | (simp only [List.length_drop, List.length_take]; rfl)) ?_; (with_reducible refine (val_Not.calls t164 t165 t166 t167 _ A14.out).mono ?_); rintro e w28 ⟨rfl, hb⟩; refine ⟨_, rfl, ?_⟩; have n0_ := Aside0.mk (Kd.R_below (by (with_reducible repeat (first | apply Kd.R_alloc | apply Kd.R_drewN | apply Kd.R_drew)); exact HO_4.out) hb); have n1_ := Aside0.mk (below_step (by repeat (first | (with_reducible first | exact HB.out | apply below_alloc | apply pw_below_drewN | apply below_drew1) | exact HB.out)) hb); clear HO_4; clear HB; have HO_4 := n0_; have HB := n1_; clear n0_ n1_; (try clear hb); (try clear hb2); (try clear hk); (try clear hi); obtain ⟨Ao29, co29, eo29⟩ := Kd.R_slice HO_4.out; subst eo29) | ((with_reducible refine gate_callee (f := 20) rfl ?_); refine goesL_ (some 33) rfl rfl Try.func20 (by kernel_rfl) rfl #[.slice Ao29 x4_2.length co29] rfl (by (try simp only [List.map_toArray, List.map_cons, List.map_nil]); first | done | rfl | (simp only [List.length_drop, List.length_take]; rfl)) ?_; (with_reducible refine (val_Or.calls _ _ x4_2 t168 t169 _ ?side1 ?side2 A15.out).mono ?_); (case side1 => repeat (first | exact (Kd.R_reads' HO_4.out).2.2 | (with_reducible refine Kd.C_alloc ?_ _) | (with_reducible refine Kd.C_drewN ?_ _) | (with_reducible refine Kd.C_drew ?_))); (case side2 => exact (Kd.R_reads' HO_4.out).2.1); rintro e w30 ⟨rfl, hb⟩; refine ⟨_, rfl, ?_⟩; have n0_ := Aside0.mk (Kd.R_below (by (with_reducible repeat (first | apply Kd.R_alloc | apply Kd.R_drewN | apply Kd.R_drew)); exact HO_4.out) hb); have n1_ := Aside0.mk (below_step (by repeat (first | (with_reducible first | exact HB.out | apply below_alloc | apply pw_below_drewN | apply below_drew1) | exact HB.out)) hb); clear HO_4; clear HB; have HO_4 := n0_; have HB := n1_; clear n0_ n1_; (try clear hb); (try clear hb2); (try clear hk); (try clear hi)))
                go_ret
                exact ⟨by first | rfl | (simp [errW_none, errW_some] <;> rfl) | (simp [*, errW_none, errW_some] <;> rfl) | (clear HB; simp only [aside0_iff] at *; simp_all; done), by repeat (first | (with_reducible first | exact HB.out | apply below_alloc | apply pw_below_drewN | apply below_drew1) | exact HB.out)⟩

/-! ### val_Sum: function 23 -/
def addLo (x y : Int) : Int := (x + y + 0) % 18446744073709551616
def addHi (x y : Int) : Int := (x + y + 0) / 18446744073709551616
theorem run_Add64 (x y : Int) (hx : 0 ≤ x) (hy : 0 ≤ y) (w : World) : Sem.run Try.prog (callFunc 75 #[.int .u64 x, .int .u64 y, .int .u64 0]) w = .ok (.value (.tuple #[.int .u64 (addLo x y), .int .u64 (addHi x y)])) w := by
  rw [run_callFunc_extern Try.func75 (by kernel_rfl) (by kernel_rfl) (by kernel_rfl) (e := add64Entry) (by kernel_rfl), run_add64 x y 0 hx hy (by omega) (by omega)]
  rfl
theorem u64_nonneg (n : Int) : 0 ≤ IntKind.u64.wrap n := by
  show 0 ≤ n % 18446744073709551616
  omega
def sumStep (st : Int × Int × Int) (s : S25) : Int × Int × Int := if s.f0 = 0 then (IntKind.u64.wrap (st.1 + IntKind.u64.wrap (addHi st.2.1 (IntKind.u64.wrap s.f1) + IntKind.u64.wrap (s.f1 / 9223372036854775808))), addLo st.2.1 (IntKind.u64.wrap s.f1), st.2.2 + 1) else st
def sumTo (l : List S25) : Int × Int × Int := l.foldl sumStep (0, 0, 0)
theorem sumTo_snoc (l : List S25) (k : Nat) (h : k < l.length) : sumTo (l.take (k + 1)) = sumStep (sumTo (l.take k)) (rd_T25 l k) := by
  unfold sumTo rd_T25
  rw [List.take_succ_eq_append_getElem h, List.foldl_append, Int.toNat_natCast, List.getD_eq_getElem?_getD, List.getElem?_eq_getElem h]
  rfl
def sumEnd (st : Int × Int × Int) : Int × Int := if st.2.2 = 0 then (1, 0) else if st.1 = IntKind.u64.wrap (wrap64 st.2.1 / 9223372036854775808) then (0, wrap64 st.2.1) else (2, 0)
def val_Sum.f (l0 : List S25) : Option (Int × Int) := some (if l0.any (fun s => vk s.f0 s.f1 == 2) then (2, 0) else sumEnd (sumTo l0))
set_option maxHeartbeats 800000 in
set_option maxRecDepth 100000 in
theorem val_Sum.calls (A0 : Option Addr) (c0 : Nat) (l0 : List S25) (r1 r2 : Int) (w : World) (hr0 : Kd.C k25 w A0 l0.length l0) (hc0 : l0.length ≤ c0) (h : val_Sum.f l0 = some (r1, r2)) :
    Calls Try.prog 23 #[.slice A0 l0.length c0] w fun e w' => e = .returned (.agg #[.int .i64 r1, .int .i64 r2]) ∧ Below w.heap.size w w' := by
  have hmax := hr0.2.1
  have HR0 := Aside0.mk hr0
  have HC0 := Aside0.mk hc0
  clear hr0 hc0
  have hu25 := Try.underlying25
  have H := Aside0.mk (Option.some.inj h)
  clear h
  have GE := Nat.le_refl w.heap.size
  go_enter Try.func23, Try.ntmps23
  go_wp2_with fail
  refine (val_kind.calls _ _).mono ?_
  rintro e w1 ⟨rfl, rfl⟩
  go_wp2_with fail
  refine (val_some.calls (fun a b => vk a b == 2) 96 #[.pointer (some ⟨w.heap.size + 1, 0, none⟩)] eg96 A0 c0 l0 _ (val_kind1.pred 2 (w.heap.size + 1) _ (by simp) (by simp)) (Kd.C_below HR0.out (by repeat (first | apply below_alloc | exact Below.refl _ _))) HC0.out).mono ?_
  rintro e w1 ⟨rfl, hb⟩
  have HB1 := Aside0.mk ((show Below w.heap.size w _ by repeat (first | apply below_alloc | exact Below.refl _ _)).trans (hb.mono (by simp; omega)))
  have B1 := Aside0.mk (blk_below (blk_alloc (blk_new w (.cells #[.int .i64 0, .int .i64 0] 25 (0, 0))) _) hb)
  clear hb
  cases h2 : l0.any (fun s => vk s.f0 s.f1 == 2) with
  | true =>
    have h3 := H.out
    rw [h2, if_pos rfl] at h3
    obtain ⟨rfl, rfl⟩ := Prod.mk.inj h3
    clear h2 h3 H
    go_wp2_with fail
    refine (val_bad.calls 2 0 _ rfl).mono ?_
    rintro e w3 ⟨rfl, hb⟩
    have D3 := Aside0.mk (blk_below B1.out hb)
    have HB3 := Aside0.mk (HB1.out.trans (hb.mono HB1.out.size))
    clear hb B1 HB1
    have hc0 : _ = some (Value.int .i64 0) := (blk_cell D3.out 0).trans rfl
    have hc1 : _ = some (Value.int .i64 0) := (blk_cell D3.out 1).trans rfl
    have hz0 := blk_frozen D3.out 0
    have hz1 := blk_frozen D3.out 1
    go_wp2_with fail
    refine bodyPost_ret (results_cell_row rfl _ _ w.heap.size 25 #[.int .i64 2, .int .i64 0] (0, 0) _ rfl (by refine blk_put (cs := #[.int .i64 2, .int .i64 0]) ?_ 1 _ rfl; refine blk_put (cs := #[.int .i64 0, .int .i64 0]) ?_ 0 _ rfl; exact D3.out) Try.underlying25 rfl (by kernel_rfl)) rfl ?_
    exact ⟨rfl, below_set (below_set HB3.out GE) GE⟩
  | false =>
    have H3 := Aside0.mk (show sumEnd (sumTo l0) = (r1, r2) by have h3 := H.out; rw [h2, if_neg (by decide)] at h3; exact h3)
    clear h2 H
    go_wp2_with fail
    go_loopg [3, 4, 5, 16] l0.length (fun gg hi lo many i wr => ∃ (kk : Nat) (a b c : Int), kk ≤ l0.length ∧ l0.length - kk ≤ gg ∧ hi = .int .u64 a ∧ lo = .int .u64 b ∧ many = .int .i64 c ∧ i = .int .i64 kk ∧ Aside0 (sumTo (l0.take kk) = (a, b, c)) ∧ 0 ≤ c ∧ c ≤ kk ∧ 0 ≤ b ∧ Aside0 (wr.heap[w.heap.size]? = some (.cells #[.int .i64 0, .int .i64 0] 25 (0, 0))) ∧ Aside0 (Below w.heap.size w wr))
    case atStart => exact ⟨0, 0, 0, 0, Nat.zero_le _, by omega, rfl, rfl, rfl, rfl, ⟨rfl⟩, by omega, by omega, by omega, B1, HB1⟩
    case round =>
      obtain ⟨kk, a, b, c, hkk, hg, rfl, rfl, rfl, rfl, S, hc0, hck, hb0, BK, BW⟩ := hrel
      by_cases hlt : kk < l0.length
      · have hltz : (kk : Int) < (l0.length : Int) := by omega
        have hk0 : (0 : Int) ≤ (kk : Int) := by omega
        obtain ⟨ad, e_, hx0, hx1⟩ := at_T25 HR0.out (kk : Int) hk0 hltz
        cases e_
        rw [Int.toNat_natCast] at hx0 hx1
        replace hx0 := (BW.out.cell (World.block_lt_of_cell? w _ hx0)).trans hx0
        replace hx1 := (BW.out.cell (World.block_lt_of_cell? w _ hx1)).trans hx1
        by_cases hn : (rd_T25 l0 kk).f0 = 0
        · have hn1 : (((rd_T25 l0 kk).f0) != 0) = false := bne_eq_false_iff_eq.mpr hn
          have HN := Aside0.mk hn
          clear hn
          have hadd := fun (W : World) => run_Add64 b (IntKind.u64.wrap (rd_T25 l0 kk).f1) hb0 (u64_nonneg _) W
          have hlo : 0 ≤ addLo b (IntKind.u64.wrap (rd_T25 l0 kk).f1) := Int.emod_nonneg _ (by decide)
          go_wp2_with fail
          go_roundg (l0.length - (kk + 1))
          case measure => omega
          case rel =>
            refine ⟨kk + 1, _, _, c + 1, by omega, by omega, rfl, rfl, rfl, by go_num, ⟨?_⟩, by omega, by omega, hlo, ⟨blk_alloc BK.out _⟩, ⟨below_alloc' BW.out _⟩⟩
            rw [sumTo_snoc l0 kk hlt, S.out]
            unfold sumStep
            rw [if_pos HN.out]
        · have hn1 : (((rd_T25 l0 kk).f0) != 0) = true := bne_iff_ne.mpr hn
          have HN := Aside0.mk hn
          clear hn
          go_wp2_with fail
          go_roundg (l0.length - (kk + 1))
          case measure => omega
          case rel =>
            refine ⟨kk + 1, a, b, c, by omega, by omega, rfl, rfl, rfl, by go_num, ⟨?_⟩, by omega, by omega, hb0, ⟨blk_alloc BK.out _⟩, ⟨below_alloc' BW.out _⟩⟩
            rw [sumTo_snoc l0 kk hlt, S.out]
            unfold sumStep
            rw [if_neg HN.out]
      · have hltz : ¬ (kk : Int) < (l0.length : Int) := by omega
        have H4 := Aside0.mk (show sumEnd (a, b, c) = (r1, r2) by have h := H3.out; have : l0.take kk = l0 := List.take_of_length_le (by omega); rw [← S.out, this]; exact h)
        clear H3 S
        by_cases hc : c = 0
        · have hc1 : (c == 0) = true := beq_iff_eq.mpr hc
          have h := H4.out
          unfold sumEnd at h
          rw [if_pos hc] at h
          obtain ⟨rfl, rfl⟩ := Prod.mk.inj h
          clear H4 hc h
          go_wp2_with fail
          refine (val_null.calls 1 0 _ rfl).mono ?_
          rintro e w3 ⟨rfl, hb⟩
          have D3 := Aside0.mk (blk_below BK.out hb)
          have HB3 := Aside0.mk (BW.out.trans (hb.mono BW.out.size))
          clear hb BK BW
          have hd0 : _ = some (Value.int .i64 0) := (blk_cell D3.out 0).trans rfl
          have hd1 : _ = some (Value.int .i64 0) := (blk_cell D3.out 1).trans rfl
          have hz0 := blk_frozen D3.out 0
          have hz1 := blk_frozen D3.out 1
          go_wp2_with fail
          refine bodyPost_ret (results_cell_row rfl _ _ w.heap.size 25 #[.int .i64 1, .int .i64 0] (0, 0) _ rfl (by refine blk_put (cs := #[.int .i64 1, .int .i64 0]) ?_ 1 _ rfl; refine blk_put (cs := #[.int .i64 0, .int .i64 0]) ?_ 0 _ rfl; exact D3.out) Try.underlying25 rfl (by kernel_rfl)) rfl ?_
          exact ⟨rfl, below_set (below_set HB3.out GE) GE⟩
        · have hc1 : (c == 0) = false := beq_eq_false_iff_ne.mpr hc
          have h := H4.out
          unfold sumEnd at h
          rw [if_neg hc] at h
          have H5 := Aside0.mk h
          clear H4 hc h
          by_cases ha : a = IntKind.u64.wrap (wrap64 b / 9223372036854775808)
          · have ha1 : (a != IntKind.u64.wrap (wrap64 b / 9223372036854775808)) = false := bne_eq_false_iff_eq.mpr ha
            have h := H5.out
            rw [if_pos ha] at h
            obtain ⟨rfl, rfl⟩ := Prod.mk.inj h
            clear H5 h ha
            go_wp2_with fail
            refine (val_Of.calls _ 0 (wrap64 b) _ rfl).mono ?_
            rintro e w3 ⟨rfl, hb⟩
            have D3 := Aside0.mk (blk_below BK.out hb)
            have HB3 := Aside0.mk (BW.out.trans (hb.mono BW.out.size))
            clear hb BK BW
            have hd0 : _ = some (Value.int .i64 0) := (blk_cell D3.out 0).trans rfl
            have hd1 : _ = some (Value.int .i64 0) := (blk_cell D3.out 1).trans rfl
            have hz0 := blk_frozen D3.out 0
            have hz1 := blk_frozen D3.out 1
            go_wp2_with fail
            refine bodyPost_ret (results_cell_row rfl _ _ w.heap.size 25 #[.int .i64 0, .int .i64 (wrap64 b)] (0, 0) _ rfl (by refine blk_put (cs := #[.int .i64 0, .int .i64 0]) ?_ 1 _ rfl; refine blk_put (cs := #[.int .i64 0, .int .i64 0]) ?_ 0 _ rfl; exact D3.out) Try.underlying25 rfl (by kernel_rfl)) rfl ?_
            exact ⟨rfl, below_set (below_set HB3.out GE) GE⟩
          · have ha1 : (a != IntKind.u64.wrap (wrap64 b / 9223372036854775808)) = true := bne_iff_ne.mpr ha
            have h := H5.out
            rw [if_neg ha] at h
            obtain ⟨rfl, rfl⟩ := Prod.mk.inj h
            clear H5 h ha
            go_wp2_with fail
            refine (val_bad.calls 2 0 _ rfl).mono ?_
            rintro e w3 ⟨rfl, hb⟩
            have D3 := Aside0.mk (blk_below BK.out hb)
            have HB3 := Aside0.mk (BW.out.trans (hb.mono BW.out.size))
            clear hb BK BW
            have hd0 : _ = some (Value.int .i64 0) := (blk_cell D3.out 0).trans rfl
            have hd1 : _ = some (Value.int .i64 0) := (blk_cell D3.out 1).trans rfl
            have hz0 := blk_frozen D3.out 0
            have hz1 := blk_frozen D3.out 1
            go_wp2_with fail
            refine bodyPost_ret (results_cell_row rfl _ _ w.heap.size 25 #[.int .i64 2, .int .i64 0] (0, 0) _ rfl (by refine blk_put (cs := #[.int .i64 2, .int .i64 0]) ?_ 1 _ rfl; refine blk_put (cs := #[.int .i64 0, .int .i64 0]) ?_ 0 _ rfl; exact D3.out) Try.underlying25 rfl (by kernel_rfl)) rfl ?_
            exact ⟨rfl, below_set (below_set HB3.out GE) GE⟩


end Go.Proofs.Ytdegbnjnbpjdfaa.V
