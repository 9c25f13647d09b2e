/- Part 15 of the proof: an abstract machine that runs the program's code over plain values, its soundness, and what the functions tell of plain values. Conditions: those in each theorem. -/
import Derived.Test.YtgebkpchpliahaaGreatDoorA13
import Derived.Carry
set_option linter.unusedSectionVars false
namespace Go.Ab
open Go.RowKit (Below)
set_option linter.unusedVariables false
set_option linter.unusedSimpArgs false
variable [GL : Gl]
section
variable {c : Cfg} {t e : TypeId} {p : PV}
theorem Typed.int_inv {k : IntKind} (h : Typed c t p) (hk : (c.at_ t).k = .int k) : ∃ n, p = .int k n ∧ (Lit.int k n).wf = true := by
  cases h with
  | int t k' n h hw => rw [hk] at h; cases h; exact ⟨n, rfl, hw⟩
  | bool t b h => rw [hk] at h; cases h
  | str t s h => rw [hk] at h; cases h
  | slice t e xs h => rw [hk] at h; cases h
  | struct t fs ps h => rw [hk] at h; cases h
  | arr t e n ps h => rw [hk] at h; cases h
theorem Typed.slice_inv (h : Typed c t p) (hk : (c.at_ t).k = .slice e) : ∃ xs, p = .slice (c.sh e) xs ∧ xs.length ≤ maxLen ∧ ∀ x ∈ xs, Typed c e x := by
  cases h with
  | int t k' n h hw => rw [hk] at h; cases h
  | bool t b h => rw [hk] at h; cases h
  | str t s h => rw [hk] at h; cases h
  | slice t e xs h hl hx => rw [hk] at h; cases h; exact ⟨xs, rfl, hl, hx⟩
  | struct t fs ps h => rw [hk] at h; cases h
  | arr t e n ps h => rw [hk] at h; cases h
def TypedL (c : Cfg) : List TypeId → List PV → Prop
  | [], [] => True
  | t :: ts, p :: ps => Typed c t p ∧ TypedL c ts ps
  | _, _ => False
theorem typedL_of {c : Cfg} : ∀ {fs : List (TypeId × Nat)} {ps : List PV}, ps.length = fs.length → (∀ (i : Nat) (f : TypeId × Nat) (p : PV), fs[i]? = some f → ps[i]? = some p → Typed c f.1 p) → TypedL c (fs.map (·.1)) ps
  | [], [], _, _ => trivial
  | [], _ :: _, h, _ => by simp at h
  | _ :: _, [], h, _ => by simp at h
  | f :: fs, p :: ps, h, k => ⟨k 0 f p rfl rfl, typedL_of (by simpa using h) fun i f p hf hp => k (i + 1) f p (by simpa using hf) (by simpa using hp)⟩
theorem Typed.struct_inv {fs : List (TypeId × Nat)} (h : Typed c t p) (hk : (c.at_ t).k = .struct fs) : ∃ ps : List PV, p = .agg (ps.flatMap PV.cells) ∧ TypedL c (fs.map (·.1)) ps := by
  cases h with
  | int t k' n h hw => rw [hk] at h; cases h
  | bool t b h => rw [hk] at h; cases h
  | str t s h => rw [hk] at h; cases h
  | slice t e xs h => rw [hk] at h; cases h
  | struct t fs ps h hl hp => rw [hk] at h; cases h; exact ⟨ps, rfl, typedL_of hl hp⟩
  | arr t e n ps h => rw [hk] at h; cases h
theorem typedL1 {a : TypeId} {ps : List PV} (h : TypedL c [a] ps) : ∃ x, ps = [x] ∧ Typed c a x := by
  match ps, h with
  | [x], h => exact ⟨x, rfl, h.1⟩
theorem typedL_cons {a : TypeId} {ts : List TypeId} {ps : List PV} (h : TypedL c (a :: ts) ps) : ∃ x qs, ps = x :: qs ∧ Typed c a x ∧ TypedL c ts qs := by
  match ps, h with
  | x :: qs, h => exact ⟨x, qs, rfl, h.1, h.2⟩
theorem list_of {α : Type} {Q : α → Prop} {f : α → PV} : ∀ {xs : List PV}, (∀ x ∈ xs, ∃ a, x = f a ∧ Q a) → ∃ l : List α, xs = l.map f ∧ ∀ a ∈ l, Q a
  | [], _ => ⟨[], rfl, by simp⟩
  | x :: xs, h => by
    obtain ⟨a, rfl, ha⟩ := h x (by simp)
    obtain ⟨l, rfl, hl⟩ := list_of (xs := xs) (fun y hy => h y (List.mem_cons_of_mem _ hy))
    exact ⟨a :: l, rfl, by simpa using ⟨ha, hl⟩⟩
end
end Go.Ab

namespace Go.Cf
open Go Go.Ab
set_option linter.unusedVariables false
theorem ty_int {p : PV} (h : Typed cfg t_int p) : ∃ n : Int, p = .int .i64 n ∧ I64 n := by
  obtain ⟨n, rfl, hw⟩ := h.int_inv (k := .i64) (by kernel_rfl)
  exact ⟨n, rfl, wf_i64 hw⟩
end Go.Cf

namespace Go.Cf
open Go Go.Ab
set_option linter.unusedVariables false
set_option maxRecDepth 100000
noncomputable def jF8 : Jn PV := (Classical.choose (exT fi8 (fin cfg fi8))).1
noncomputable def lF8 : Ln PV := (Classical.choose (exT fi8 (fin cfg fi8))).2
theorem T8 : Tied cfg W fi8 (fin cfg fi8) jF8 lF8 := Classical.choose_spec (exT fi8 (fin cfg fi8))
noncomputable def J_roadbooklaw07_MeansCols_1 (l9 : List PV) (l10 : List PV) (l11 : List PV) (l12 : List PV) (i13 : Int) (l14 : List PV) (l15 : List PV) (i16 : Int) (i17 : Int) (l18 : List PV) : Option PV := jF8 [1, 1, 1, 1] (St.mk [(4, (AV.pv (PV.imm 2 (PV.agg [(PV.slice 3 l9)]) 0))), (5, (AV.pv (PV.imm 2 (PV.agg [(PV.slice 0 l10)]) 0))), (6, (AV.pv (PV.imm 7 (PV.agg [(PV.slice 0 l11), (PV.slice 6 l12), (PV.int .i64 i13), (PV.slice 0 l14), (PV.slice 0 l15), (PV.int .i64 i16)]) 0))), (7, (AV.pv (PV.imm 3 (PV.agg [(PV.int .i64 i17), (PV.slice 3 l18)]) 0)))] [])
noncomputable def L_roadbooklaw07_MeansCols_2 (l35 : List PV) (l36 : List PV) (i37 : Int) (l38 : List PV) (l39 : List PV) (i40 : Int) (l41 : List PV) (l42 : List PV) (i43 : Int) (l44 : List PV) (l45 : List PV) (l46 : List PV) : Option PV := lF8 [0, 1, 0, 1, 1, 1, 1, 1, 1, 1, 1, 1] 2 (St.mk [(6, (AV.pv (PV.imm 7 (PV.agg [(PV.slice 0 l35), (PV.slice 6 l36), (PV.int .i64 i37), (PV.slice 0 l38), (PV.slice 0 l39), (PV.int .i64 i40)]) 0))), (11, (AV.own 0 0)), (13, (AV.pv (PV.slice 0 l41))), (14, (AV.view 1 0 none)), (15, (AV.pv (PV.slice 0 l42))), (16, (AV.pv (PV.int .i64 i43)))] [(Ob.var false 3 (AV.pv (PV.agg [(PV.slice 0 l44), (PV.slice 0 l45)]))), (Ob.row false 0 6 l46)])
noncomputable def J_roadbooklaw07_MeansCols_3 (l51 : List PV) (l52 : List PV) (i53 : Int) (l54 : List PV) (l55 : List PV) (i56 : Int) (l57 : List PV) (l58 : List PV) (i59 : Int) (l60 : List PV) (l61 : List PV) (l62 : List PV) : Option PV := jF8 [1, 0, 0, 1, 2, 0, 1, 0, 1, 1, 1, 1, 1, 1, 1, 1, 1] (St.mk [(6, (AV.pv (PV.imm 7 (PV.agg [(PV.slice 0 l51), (PV.slice 6 l52), (PV.int .i64 i53), (PV.slice 0 l54), (PV.slice 0 l55), (PV.int .i64 i56)]) 0))), (11, (AV.own 0 0)), (13, (AV.pv (PV.slice 0 l57))), (14, (AV.view 1 0 none)), (15, (AV.pv (PV.slice 0 l58))), (16, (AV.pv (PV.int .i64 i59)))] [(Ob.var false 3 (AV.pv (PV.agg [(PV.slice 0 l60), (PV.slice 0 l61)]))), (Ob.row false 0 6 l62)])
theorem J_roadbooklaw07_MeansCols_1_eq (l9 : List PV) (l10 : List PV) (l11 : List PV) (l12 : List PV) (i13 : Int) (l14 : List PV) (l15 : List PV) (i16 : Int) (i17 : Int) (l18 : List PV) : J_roadbooklaw07_MeansCols_1 l9 l10 l11 l12 i13 l14 l15 i16 i17 l18 =
  (((wc W n_means_Rows [(PV.agg [(PV.slice 3 l9)]), (PV.agg [(PV.slice 0 l10)]), (PV.agg [(PV.slice 0 l11), (PV.slice 6 l12), (PV.int .i64 i13), (PV.slice 0 l14), (PV.slice 0 l15), (PV.int .i64 i16)]), (PV.agg [(PV.int .i64 i17), (PV.slice 3 l18)])])).bind (fun v19 => (((PV.asTup v19)).bind (fun v20 => (((v20)[0]?).bind (fun v21 => (c_g_s0_s0 v21 (fun v22 v23 => (((PV.asTup v19)).bind (fun v24 => (((v24)[1]?).bind (fun v25 => (c_b v25 (fun v26 => (bif (!v26) then (some (PV.bool ((((List.length v23) : Nat) : Int) == (0 : Int)))) else (((wc W n_tree_Set [(PV.agg [(PV.int .i64 i17), (PV.slice 3 l18)])])).bind (fun v27 => (c_i64 v27 (fun v28 => (((wc W n_query_Cols [(PV.agg [(PV.slice 3 l9)]), (PV.agg [(PV.slice 0 l11), (PV.slice 6 l12), (PV.int .i64 i13), (PV.slice 0 l14), (PV.slice 0 l15), (PV.int .i64 i16)]), (PV.int .i64 v28)])).bind (fun v29 => (c_s0 v29 (fun v30 => (((wc W n_tree_Set [(PV.agg [(PV.int .i64 i17), (PV.slice 3 l18)])])).bind (fun v31 => (c_i64 v31 (fun v32 => (((wc W n_query_Own [(PV.agg [(PV.slice 0 l11), (PV.slice 6 l12), (PV.int .i64 i13), (PV.slice 0 l14), (PV.slice 0 l15), (PV.int .i64 i16)]), (PV.int .i64 v32)])).bind (fun v33 => (c_s0 v33 (fun v34 => (L_roadbooklaw07_MeansCols_2 l11 l12 i13 l14 l15 i16 v30 v34 (0 : Int) v22 v23 [])))))))))))))))))))))))))))))))) := (T8.join [1, 1, 1, 1] _).trans (by kernel_rfl)
theorem L_roadbooklaw07_MeansCols_2_eq (l35 : List PV) (l36 : List PV) (i37 : Int) (l38 : List PV) (l39 : List PV) (i40 : Int) (l41 : List PV) (l42 : List PV) (i43 : Int) (l44 : List PV) (l45 : List PV) (l46 : List PV) : L_roadbooklaw07_MeansCols_2 l35 l36 i37 l38 l39 i40 l41 l42 i43 l44 l45 l46 =
  (bif (decide (i43 < (((List.length l42) : Nat) : Int))) then (bif (decide ((0 : Int) ≤ i43)) then (((l42)[(Int.toNat i43)]?).bind (fun v47 => (c_i64 v47 (fun v48 => (bif (decide (v48 < (0 : Int))) then (some (PV.bool false)) else (bif (decide ((0 : Int) ≤ i43)) then (((l42)[(Int.toNat i43)]?).bind (fun v49 => (c_i64 v49 (fun v50 => (bif (decide (GE.ge v50 (((List.length l36) : Nat) : Int))) then (some (PV.bool false)) else (J_roadbooklaw07_MeansCols_3 l35 l36 i37 l38 l39 i40 l41 l42 i43 l44 l45 l46)))))) else none)))))) else none) else (((wc W n_bag_Pick [(PV.agg [(PV.slice 0 l44), (PV.slice 0 l45)]), (PV.slice 0 l41)])).bind (fun v63 => (((PV.asTup v63)).bind (fun v64 => (((v64)[0]?).bind (fun v65 => (c_g_s0_s0 v65 (fun v66 v67 => (((PV.asTup v63)).bind (fun v68 => (((v68)[1]?).bind (fun v69 => (c_b v69 (fun v70 => (((wc W n_bag_May [(PV.agg [(PV.slice 0 l44), (PV.slice 0 l45)])])).bind (fun v71 => (c_b v71 (fun v72 => (bif v72 then (bif v70 then (bif ((((List.length l44) : Nat) : Int) == (((List.length l41) : Nat) : Int)) then (bif ((((List.length v67) : Nat) : Int) == (((List.length l45) : Nat) : Int)) then (((wc W n_bag_Keep [(PV.agg [(PV.slice 0 l44), (PV.slice 0 l45)]), (PV.slice 6 l46)])).bind (fun v73 => (c_g_s0_s0 v73 (fun v74 v75 => (((wc W n_roadbookref03_Like [(PV.agg [(PV.slice 0 v74), (PV.slice 0 v75)]), (PV.agg [(PV.slice 0 l44), (PV.slice 0 l45)])])).bind (fun v76 => (c_b v76 (fun v77 => (some (PV.bool v77)))))))))) else (some (PV.bool false))) else (some (PV.bool false))) else (some (PV.bool false))) else (some (PV.bool false)))))))))))))))))))))) := (T8.loop [1, 1, 1, 1, 1, 1, 1, 1, 1, 0, 1, 0] 2 _ rfl).trans (by kernel_rfl)
theorem J_roadbooklaw07_MeansCols_3_eq (l51 : List PV) (l52 : List PV) (i53 : Int) (l54 : List PV) (l55 : List PV) (i56 : Int) (l57 : List PV) (l58 : List PV) (i59 : Int) (l60 : List PV) (l61 : List PV) (l62 : List PV) : J_roadbooklaw07_MeansCols_3 l51 l52 i53 l54 l55 i56 l57 l58 i59 l60 l61 l62 =
  (bif (decide ((0 : Int) ≤ i59)) then (((l58)[(Int.toNat i59)]?).bind (fun v78 => (c_i64 v78 (fun v79 => (bif (decide ((0 : Int) ≤ v79)) then (((l52)[(Int.toNat v79)]?).bind (fun v80 => (c_g_i64_i64_i64_i64_s6 v80 (fun v81 v82 v83 v84 v85 => (bif (true && (decide (((List.length l62) + 1 : Nat) ≤ 4294967296))) then (L_roadbooklaw07_MeansCols_2 l51 l52 i53 l54 l55 i56 l57 l58 (IntKind.wrap .i64 (i59 + (1 : Int) : Int)) l60 l61 (l62 ++ [(PV.agg [(PV.int .i64 v81), (PV.int .i64 v82), (PV.int .i64 v83), (PV.int .i64 v84), (PV.slice 6 v85)])])) else none))))) else none))))) else none) := (T8.join [1, 1, 1, 1, 1, 1, 1, 1, 1, 0, 1, 0, 2, 1, 0, 0, 1] _).trans (by kernel_rfl)
theorem e_roadbooklaw07_MeansCols (a0_0 : List PV) (a1_0 : List PV) (a2_0 : List PV) (a2_1 : List PV) (a2_2 : Int) (a2_3 : List PV) (a2_4 : List PV) (a2_5 : Int) (a3_0 : Int) (a3_1 : List PV) : wc W n_roadbooklaw07_MeansCols [(PV.agg [(PV.slice 3 a0_0)]), (PV.agg [(PV.slice 0 a1_0)]), (PV.agg [(PV.slice 0 a2_0), (PV.slice 6 a2_1), (PV.int .i64 a2_2), (PV.slice 0 a2_3), (PV.slice 0 a2_4), (PV.int .i64 a2_5)]), (PV.agg [(PV.int .i64 a3_0), (PV.slice 3 a3_1)])] =
  (((wc W n_roadbooklaw07_awake [])).bind (fun v1 => (c_b v1 (fun v2 => (((wc W n_roadbooklaw07_few [(PV.agg [(PV.slice 3 a0_0)]), (PV.agg [(PV.slice 0 a1_0)]), (PV.agg [(PV.slice 0 a2_0), (PV.slice 6 a2_1), (PV.int .i64 a2_2), (PV.slice 0 a2_3), (PV.slice 0 a2_4), (PV.int .i64 a2_5)])])).bind (fun v3 => (c_b v3 (fun v4 => (bif (!v2) then (some (PV.bool v2)) else (bif (!v4) then (some (PV.bool v2)) else (((wc W n_roadbooklaw07_Light [(PV.agg [(PV.slice 0 a1_0)]), (PV.agg [(PV.slice 0 a2_0), (PV.slice 6 a2_1), (PV.int .i64 a2_2), (PV.slice 0 a2_3), (PV.slice 0 a2_4), (PV.int .i64 a2_5)])])).bind (fun v5 => (c_i64 v5 (fun v6 => (bif (v6 != (0 : Int)) then (some (PV.bool v2)) else (((wc W n_roadbookref06_Size [(PV.agg [(PV.int .i64 a3_0), (PV.slice 3 a3_1)]), (PV.int .i64 (100 : Int))])).bind (fun v7 => (c_i64 v7 (fun v8 => (bif (decide (GT.gt v8 (100 : Int))) then (some (PV.bool v2)) else (J_roadbooklaw07_MeansCols_1 a0_0 a1_0 a2_0 a2_1 a2_2 a2_3 a2_4 a2_5 a3_0 a3_1))))))))))))))))))))) := go (by kernel_rfl) (by kernel_rfl) T8 (by kernel_rfl)
noncomputable def jF19 : Jn PV := (Classical.choose (exT fi19 (fin cfg fi19))).1
noncomputable def lF19 : Ln PV := (Classical.choose (exT fi19 (fin cfg fi19))).2
theorem T19 : Tied cfg W fi19 (fin cfg fi19) jF19 lF19 := Classical.choose_spec (exT fi19 (fin cfg fi19))
theorem e_roadbooklaw07_few (a0_0 : List PV) (a1_0 : List PV) (a2_0 : List PV) (a2_1 : List PV) (a2_2 : Int) (a2_3 : List PV) (a2_4 : List PV) (a2_5 : Int) : wc W n_roadbooklaw07_few [(PV.agg [(PV.slice 3 a0_0)]), (PV.agg [(PV.slice 0 a1_0)]), (PV.agg [(PV.slice 0 a2_0), (PV.slice 6 a2_1), (PV.int .i64 a2_2), (PV.slice 0 a2_3), (PV.slice 0 a2_4), (PV.int .i64 a2_5)])] =
  (((wc W n_roadbooklaw05_Far [(PV.agg [(PV.slice 3 a0_0)]), (PV.agg [(PV.slice 0 a2_0), (PV.slice 6 a2_1), (PV.int .i64 a2_2), (PV.slice 0 a2_3), (PV.slice 0 a2_4), (PV.int .i64 a2_5)])])).bind (fun v1 => (c_i64 v1 (fun v2 => (bif (v2 == (0 : Int)) then (((wc W n_roadbooklaw04_Far [(PV.agg [(PV.slice 0 a1_0)])])).bind (fun v3 => (c_i64 v3 (fun v4 => (some (PV.bool (v4 == (0 : Int)))))))) else (some (PV.bool false))))))) := go (by kernel_rfl) (by kernel_rfl) T19 (by kernel_rfl)
noncomputable def jF20 : Jn PV := (Classical.choose (exT fi20 (fin cfg fi20))).1
noncomputable def lF20 : Ln PV := (Classical.choose (exT fi20 (fin cfg fi20))).2
theorem T20 : Tied cfg W fi20 (fin cfg fi20) jF20 lF20 := Classical.choose_spec (exT fi20 (fin cfg fi20))
noncomputable def J_roadbooklaw07_Light_1 (l1 : List PV) (i2 : Int) : Option PV := jF20 [1, 1, 1] (St.mk [(2, (AV.pv (PV.imm 2 (PV.agg [(PV.slice 0 l1)]) 0))), (5, (AV.pv (PV.int .i64 i2)))] [])
noncomputable def L_roadbooklaw07_Light_2 (l3 : List PV) (i4 : Int) (i5 : Int) : Option PV := lF20 [0, 1, 0, 1, 1, 1] 0 (St.mk [(2, (AV.pv (PV.imm 2 (PV.agg [(PV.slice 0 l3)]) 0))), (5, (AV.pv (PV.int .i64 i4))), (6, (AV.pv (PV.int .i64 i5)))] [])
theorem J_roadbooklaw07_Light_1_eq (l1 : List PV) (i2 : Int) : J_roadbooklaw07_Light_1 l1 i2 =
  (L_roadbooklaw07_Light_2 l1 i2 (0 : Int)) := (T20.join [1, 1, 1] _).trans (by kernel_rfl)
theorem L_roadbooklaw07_Light_2_eq (l3 : List PV) (i4 : Int) (i5 : Int) : L_roadbooklaw07_Light_2 l3 i4 i5 =
  (bif (decide (i5 < (((List.length l3) : Nat) : Int))) then (bif (decide ((0 : Int) ≤ i5)) then (((l3)[(Int.toNat i5)]?).bind (fun v6 => (c_s0 v6 (fun v7 => (bif (decide (GT.gt (((List.length v7) : Nat) : Int) i4)) then (some (PV.int .i64 (1 : Int))) else (L_roadbooklaw07_Light_2 l3 i4 (IntKind.wrap .i64 (i5 + (1 : Int) : Int)))))))) else none) else (some (PV.int .i64 (0 : Int)))) := (T20.loop [1, 1, 1, 0, 1, 0] 0 _ rfl).trans (by kernel_rfl)
theorem e_roadbooklaw07_Light (a0_0 : List PV) (a1_0 : List PV) (a1_1 : List PV) (a1_2 : Int) (a1_3 : List PV) (a1_4 : List PV) (a1_5 : Int) : wc W n_roadbooklaw07_Light [(PV.agg [(PV.slice 0 a0_0)]), (PV.agg [(PV.slice 0 a1_0), (PV.slice 6 a1_1), (PV.int .i64 a1_2), (PV.slice 0 a1_3), (PV.slice 0 a1_4), (PV.int .i64 a1_5)])] =
  (bif (decide (GT.gt (((List.length a1_0) : Nat) : Int) (3 : Int))) then (J_roadbooklaw07_Light_1 a0_0 (3 : Int)) else (J_roadbooklaw07_Light_1 a0_0 (5 : Int))) := go (by kernel_rfl) (by kernel_rfl) T20 (by kernel_rfl)
noncomputable def jF22 : Jn PV := (Classical.choose (exT fi22 (fin cfg fi22))).1
noncomputable def lF22 : Ln PV := (Classical.choose (exT fi22 (fin cfg fi22))).2
theorem T22 : Tied cfg W fi22 (fin cfg fi22) jF22 lF22 := Classical.choose_spec (exT fi22 (fin cfg fi22))
noncomputable def J_query_May_1 (l5 : List PV) (l6 : List PV) (l7 : List PV) (i8 : Int) (l9 : List PV) (l10 : List PV) (i11 : Int) : Option PV := jF22 [1, 1, 1] (St.mk [(2, (AV.pv (PV.imm 2 (PV.agg [(PV.slice 3 l5)]) 0))), (3, (AV.pv (PV.imm 7 (PV.agg [(PV.slice 0 l6), (PV.slice 6 l7), (PV.int .i64 i8), (PV.slice 0 l9), (PV.slice 0 l10), (PV.int .i64 i11)]) 0)))] [])
noncomputable def L_query_May_2 (l14 : List PV) (l15 : List PV) (i16 : Int) (l17 : List PV) (l18 : List PV) (i19 : Int) (l20 : List PV) (l21 : List PV) (i22 : Int) (i23 : Int) : Option PV := lF22 [0, 1, 0, 1, 1, 1, 1] 0 (St.mk [(3, (AV.pv (PV.imm 7 (PV.agg [(PV.slice 0 l14), (PV.slice 6 l15), (PV.int .i64 i16), (PV.slice 0 l17), (PV.slice 0 l18), (PV.int .i64 i19)]) 0))), (6, (AV.pv (PV.slice 0 l20))), (43, (AV.pv (PV.slice 6 l21))), (44, (AV.pv (PV.int .i64 i22))), (45, (AV.pv (PV.int .i64 i23)))] [])
noncomputable def J_query_May_3 (l38 : List PV) (l39 : List PV) (i40 : Int) (l41 : List PV) (l42 : List PV) (i43 : Int) (b44 : Bool) : Option PV := jF22 [1, 0, 1, 0, 1, 1, 1, 1, 1] (St.mk [(3, (AV.pv (PV.imm 7 (PV.agg [(PV.slice 0 l38), (PV.slice 6 l39), (PV.int .i64 i40), (PV.slice 0 l41), (PV.slice 0 l42), (PV.int .i64 i43)]) 0))), (10, (AV.pv (PV.bool b44)))] [])
theorem J_query_May_1_eq (l5 : List PV) (l6 : List PV) (l7 : List PV) (i8 : Int) (l9 : List PV) (l10 : List PV) (i11 : Int) : J_query_May_1 l5 l6 l7 i8 l9 l10 i11 =
  (((wc W n_query_all [(PV.agg [(PV.slice 3 l5)]), (PV.agg [(PV.slice 0 l6), (PV.slice 6 l7), (PV.int .i64 i8), (PV.slice 0 l9), (PV.slice 0 l10), (PV.int .i64 i11)]), (PV.fn n_query_May_2 [] [])])).bind (fun v12 => (c_s0 v12 (fun v13 => (L_query_May_2 l6 l7 i8 l9 l10 i11 v13 l7 (((List.length l7) : Nat) : Int) (0 : Int)))))) := (T22.join [1, 1, 1] _).trans (by kernel_rfl)
theorem L_query_May_2_eq (l14 : List PV) (l15 : List PV) (i16 : Int) (l17 : List PV) (l18 : List PV) (i19 : Int) (l20 : List PV) (l21 : List PV) (i22 : Int) (i23 : Int) : L_query_May_2 l14 l15 i16 l17 l18 i19 l20 l21 i22 i23 =
  (bif (decide (i23 < i22)) then (bif (decide ((0 : Int) ≤ i23)) then (((l21)[(Int.toNat i23)]?).bind (fun v24 => (c_g_i64_i64_i64_i64_s6 v24 (fun v25 v26 v27 v28 v29 => (((wc W n_expr_Cols [(PV.agg [(PV.int .i64 v25), (PV.int .i64 v26), (PV.int .i64 v27), (PV.int .i64 v28), (PV.slice 6 v29)])])).bind (fun v30 => (c_s0 v30 (fun v31 => (bif ((((List.length v31) : Nat) : Int) == (0 : Int)) then (some (PV.bool false)) else (((wc W n_query_within [(PV.slice 0 v31), (PV.slice 0 l20)])).bind (fun v32 => (c_b v32 (fun v33 => (bif (!v33) then (some (PV.bool false)) else (L_query_May_2 l14 l15 i16 l17 l18 i19 l20 l21 i22 (IntKind.wrap .i64 (i23 + (1 : Int) : Int))))))))))))))))) else none) else (bif (i16 == (-1 : Int)) then (bif (decide (GE.ge (((List.length l18) : Nat) : Int) (1 : Int))) then (bif (decide ((((List.length l18) : Nat) : Int) ≤ (8 : Int))) then (((wc W n_query_once [(PV.slice 0 l18)])).bind (fun v34 => (c_b v34 (fun v35 => (bif v35 then (((wc W n_query_within [(PV.slice 0 l18), (PV.slice 0 l20)])).bind (fun v36 => (c_b v36 (fun v37 => (J_query_May_3 l14 l15 i16 l17 l18 i19 v37))))) else (J_query_May_3 l14 l15 i16 l17 l18 i19 false)))))) else (J_query_May_3 l14 l15 i16 l17 l18 i19 false)) else (J_query_May_3 l14 l15 i16 l17 l18 i19 false)) else (((wc W n_query_within [(PV.slice 0 [(PV.int .i64 i16)]), (PV.slice 0 l20)])).bind (fun v45 => (c_b v45 (fun v46 => (bif v46 then (bif (decide ((((List.length l17) : Nat) : Int) ≤ (4 : Int))) then (((wc W n_query_within [(PV.slice 0 l17), (PV.slice 0 l20)])).bind (fun v47 => (c_b v47 (fun v48 => (bif v48 then (bif ((((List.length l18) : Nat) : Int) == (0 : Int)) then (bif (i19 == (-1 : Int)) then (some (PV.bool true)) else (some (PV.bool (i19 == i16)))) else (some (PV.bool false))) else (some (PV.bool false))))))) else (some (PV.bool false))) else (some (PV.bool false))))))))) := (T22.loop [1, 1, 1, 1, 0, 1, 0] 0 _ rfl).trans (by kernel_rfl)
theorem J_query_May_3_eq (l38 : List PV) (l39 : List PV) (i40 : Int) (l41 : List PV) (l42 : List PV) (i43 : Int) (b44 : Bool) : J_query_May_3 l38 l39 i40 l41 l42 i43 b44 =
  (bif b44 then (bif ((((List.length l41) : Nat) : Int) == (0 : Int)) then (bif (i43 == (-1 : Int)) then (some (PV.bool true)) else (((wc W n_slices_Contains_int_int [(PV.slice 0 l42), (PV.int .i64 i43)])).bind (fun v49 => (c_b v49 (fun v50 => (some (PV.bool v50))))))) else (some (PV.bool false))) else (some (PV.bool false))) := (T22.join [1, 1, 1, 1, 1, 0, 1, 0, 1] _).trans (by kernel_rfl)
theorem e_query_May (a0_0 : List PV) (a1_0 : List PV) (a1_1 : List PV) (a1_2 : Int) (a1_3 : List PV) (a1_4 : List PV) (a1_5 : Int) : wc W n_query_May [(PV.agg [(PV.slice 3 a0_0)]), (PV.agg [(PV.slice 0 a1_0), (PV.slice 6 a1_1), (PV.int .i64 a1_2), (PV.slice 0 a1_3), (PV.slice 0 a1_4), (PV.int .i64 a1_5)])] =
  (((wc W n_data_May [(PV.agg [(PV.slice 3 a0_0)])])).bind (fun v1 => (c_b v1 (fun v2 => (bif (!v2) then (some (PV.bool false)) else (bif (decide ((((List.length a1_0) : Nat) : Int) < (1 : Int))) then (some (PV.bool false)) else (bif (decide (GT.gt (((List.length a1_0) : Nat) : Int) (4 : Int))) then (some (PV.bool false)) else (((wc W n_slices_ContainsFunc_int_int [(PV.slice 0 a1_0), (PV.fn n_query_May_1 [] [(PV.imm 2 (PV.agg [(PV.slice 3 a0_0)]) 0)])])).bind (fun v3 => (c_b v3 (fun v4 => (bif v4 then (some (PV.bool false)) else (bif (decide (GT.gt (((List.length a1_1) : Nat) : Int) (6 : Int))) then (some (PV.bool false)) else (J_query_May_1 a0_0 a1_0 a1_1 a1_2 a1_3 a1_4 a1_5)))))))))))))) := go (by kernel_rfl) (by kernel_rfl) T22 (by kernel_rfl)
noncomputable def jF23 : Jn PV := (Classical.choose (exT fi23 (fin cfg fi23))).1
noncomputable def lF23 : Ln PV := (Classical.choose (exT fi23 (fin cfg fi23))).2
theorem T23 : Tied cfg W fi23 (fin cfg fi23) jF23 lF23 := Classical.choose_spec (exT fi23 (fin cfg fi23))
noncomputable def L_roadbookref03_Row_1 (l1 : List PV) (l2 : List PV) (i3 : Int) : Option PV := lF23 [0, 1, 0, 1, 1] 0 (St.mk [(0, (AV.pv (PV.slice 3 l1))), (1, (AV.pv (PV.slice 3 l2))), (5, (AV.pv (PV.int .i64 i3)))] [])
theorem L_roadbookref03_Row_1_eq (l1 : List PV) (l2 : List PV) (i3 : Int) : L_roadbookref03_Row_1 l1 l2 i3 =
  (bif (decide (i3 < (((List.length l1) : Nat) : Int))) then (bif (decide ((0 : Int) ≤ i3)) then (((l1)[(Int.toNat i3)]?).bind (fun v4 => (c_g_i64_i64 v4 (fun v5 v6 => (bif (decide ((0 : Int) ≤ i3)) then (((l2)[(Int.toNat i3)]?).bind (fun v7 => (c_g_i64_i64 v7 (fun v8 v9 => (((((bif (v5 == v8) then (bif (v6 == v9) then (some true) else (some false)) else (some false))).bind (fun v10 => (some (PV.bool (!v10)))))).bind (fun v11 => (c_b v11 (fun v12 => (bif v12 then (some (PV.bool false)) else (L_roadbookref03_Row_1 l1 l2 (IntKind.wrap .i64 (i3 + (1 : Int) : Int)))))))))))) else none))))) else none) else (some (PV.bool true))) := (T23.loop [1, 1, 0, 1, 0] 0 _ rfl).trans (by kernel_rfl)
theorem e_roadbookref03_Row (a0 : List PV) (a1 : List PV) : wc W n_roadbookref03_Row [(PV.slice 3 a0), (PV.slice 3 a1)] =
  (bif ((((List.length a0) : Nat) : Int) != (((List.length a1) : Nat) : Int)) then (some (PV.bool false)) else (L_roadbookref03_Row_1 a0 a1 (0 : Int))) := go (by kernel_rfl) (by kernel_rfl) T23 (by kernel_rfl)
noncomputable def jF25 : Jn PV := (Classical.choose (exT fi25 (fin cfg fi25))).1
noncomputable def lF25 : Ln PV := (Classical.choose (exT fi25 (fin cfg fi25))).2
theorem T25 : Tied cfg W fi25 (fin cfg fi25) jF25 lF25 := Classical.choose_spec (exT fi25 (fin cfg fi25))
noncomputable def J_means_Rows_1 (l9 : List PV) (l10 : List PV) (l11 : List PV) (l12 : List PV) (i13 : Int) (l14 : List PV) (l15 : List PV) (i16 : Int) (i17 : Int) (l18 : List PV) : Option PV := jF25 [1, 1] (St.mk [(4, (AV.pv (PV.imm 2 (PV.agg [(PV.slice 3 l9)]) 0))), (5, (AV.pv (PV.imm 2 (PV.agg [(PV.slice 0 l10)]) 0))), (6, (AV.pv (PV.imm 7 (PV.agg [(PV.slice 0 l11), (PV.slice 6 l12), (PV.int .i64 i13), (PV.slice 0 l14), (PV.slice 0 l15), (PV.int .i64 i16)]) 0))), (7, (AV.pv (PV.imm 3 (PV.agg [(PV.int .i64 i17), (PV.slice 3 l18)]) 0))), (8, (AV.own 0 0))] [(Ob.var false 3 (AV.agg [(AV.nil 0), (AV.nil 0)]))])
theorem J_means_Rows_1_eq (l9 : List PV) (l10 : List PV) (l11 : List PV) (l12 : List PV) (i13 : Int) (l14 : List PV) (l15 : List PV) (i16 : Int) (i17 : Int) (l18 : List PV) : J_means_Rows_1 l9 l10 l11 l12 i13 l14 l15 i16 i17 l18 =
  (((W n_means_told false [(AV.fnv n_means_Rows_2 [] [(AV.own 0 0), (AV.pv (PV.imm 3 (PV.agg [(PV.int .i64 i17), (PV.slice 3 l18)]) 0))])] [(Ob.var false 0 (AV.fnv n_means_Rows_1 [] [(AV.pv (PV.imm 2 (PV.agg [(PV.slice 3 l9)]) 0)), (AV.pv (PV.imm 2 (PV.agg [(PV.slice 0 l10)]) 0)), (AV.pv (PV.imm 7 (PV.agg [(PV.slice 0 l11), (PV.slice 6 l12), (PV.int .i64 i13), (PV.slice 0 l14), (PV.slice 0 l15), (PV.int .i64 i16)]) 0)), (AV.own 0 0)]))])).bind (fun v29 => (k_abad21 v29 (fun v30 v31 v32 v33 v34 v35 v36 v37 v38 => (((PV.asTup v30)).bind (fun v39 => (((v39)[0]?).bind (fun v40 => (c_g_s0_s0 v40 (fun v41 v42 => (((PV.asTup v30)).bind (fun v43 => (((v43)[1]?).bind (fun v44 => (c_b v44 (fun v45 => (some (PV.tup [(PV.agg [(PV.slice 0 v41), (PV.slice 0 v42)]), (PV.bool v45)])))))))))))))))))) := (T25.join [1, 1] _).trans (by kernel_rfl)
theorem e_means_Rows (a0_0 : List PV) (a1_0 : List PV) (a2_0 : List PV) (a2_1 : List PV) (a2_2 : Int) (a2_3 : List PV) (a2_4 : List PV) (a2_5 : Int) (a3_0 : Int) (a3_1 : List PV) : wc W n_means_Rows [(PV.agg [(PV.slice 3 a0_0)]), (PV.agg [(PV.slice 0 a1_0)]), (PV.agg [(PV.slice 0 a2_0), (PV.slice 6 a2_1), (PV.int .i64 a2_2), (PV.slice 0 a2_3), (PV.slice 0 a2_4), (PV.int .i64 a2_5)]), (PV.agg [(PV.int .i64 a3_0), (PV.slice 3 a3_1)])] =
  (((wc W n_query_May [(PV.agg [(PV.slice 3 a0_0)]), (PV.agg [(PV.slice 0 a2_0), (PV.slice 6 a2_1), (PV.int .i64 a2_2), (PV.slice 0 a2_3), (PV.slice 0 a2_4), (PV.int .i64 a2_5)])])).bind (fun v1 => (c_b v1 (fun v2 => (bif (!v2) then (some (PV.tup [(PV.agg [(PV.slice 0 []), (PV.slice 0 [])]), (PV.bool false)])) else (((wc W n_data_Fits [(PV.agg [(PV.slice 3 a0_0)]), (PV.agg [(PV.slice 0 a1_0)])])).bind (fun v3 => (c_b v3 (fun v4 => (bif (!v4) then (some (PV.tup [(PV.agg [(PV.slice 0 []), (PV.slice 0 [])]), (PV.bool false)])) else (((wc W n_tree_May [(PV.agg [(PV.int .i64 a3_0), (PV.slice 3 a3_1)])])).bind (fun v5 => (c_b v5 (fun v6 => (bif (!v6) then (some (PV.tup [(PV.agg [(PV.slice 0 []), (PV.slice 0 [])]), (PV.bool false)])) else (((wc W n_tree_Set [(PV.agg [(PV.int .i64 a3_0), (PV.slice 3 a3_1)])])).bind (fun v7 => (c_i64 v7 (fun v8 => (bif (decide (GT.gt (Int.fdiv v8 (HPow.hPow (2 : Int) (Min.min (Int.toNat (((List.length a2_0) : Nat) : Int)) 64))) (0 : Int))) then (some (PV.tup [(PV.agg [(PV.slice 0 []), (PV.slice 0 [])]), (PV.bool false)])) else (J_means_Rows_1 a0_0 a1_0 a2_0 a2_1 a2_2 a2_3 a2_4 a2_5 a3_0 a3_1))))))))))))))))))))) := go (by kernel_rfl) (by kernel_rfl) T25 (by kernel_rfl)
noncomputable def jF27 : Jn PV := (Classical.choose (exT fi27 (fin cfg fi27))).1
noncomputable def lF27 : Ln PV := (Classical.choose (exT fi27 (fin cfg fi27))).2
theorem T27 : Tied cfg W fi27 (fin cfg fi27) jF27 lF27 := Classical.choose_spec (exT fi27 (fin cfg fi27))
theorem e_query_Cols (a0_0 : List PV) (a1_0 : List PV) (a1_1 : List PV) (a1_2 : Int) (a1_3 : List PV) (a1_4 : List PV) (a1_5 : Int) (a2 : Int) : wc W n_query_Cols [(PV.agg [(PV.slice 3 a0_0)]), (PV.agg [(PV.slice 0 a1_0), (PV.slice 6 a1_1), (PV.int .i64 a1_2), (PV.slice 0 a1_3), (PV.slice 0 a1_4), (PV.int .i64 a1_5)]), (PV.int .i64 a2)] =
  (((wc W n_query_May [(PV.agg [(PV.slice 3 a0_0)]), (PV.agg [(PV.slice 0 a1_0), (PV.slice 6 a1_1), (PV.int .i64 a1_2), (PV.slice 0 a1_3), (PV.slice 0 a1_4), (PV.int .i64 a1_5)])])).bind (fun v1 => (c_b v1 (fun v2 => (bif (!v2) then (some (PV.slice 0 [])) else (((wc W n_query_all [(PV.agg [(PV.slice 3 a0_0)]), (PV.agg [(PV.slice 0 a1_0), (PV.slice 6 a1_1), (PV.int .i64 a1_2), (PV.slice 0 a1_3), (PV.slice 0 a1_4), (PV.int .i64 a1_5)]), (PV.fn n_query_set_has [(PV.int .i64 a2)] [])])).bind (fun v3 => (c_s0 v3 (fun v4 => (some (PV.slice 0 v4))))))))))) := go (by kernel_rfl) (by kernel_rfl) T27 (by kernel_rfl)
noncomputable def jF28 : Jn PV := (Classical.choose (exT fi28 (fin cfg fi28))).1
noncomputable def lF28 : Ln PV := (Classical.choose (exT fi28 (fin cfg fi28))).2
theorem T28 : Tied cfg W fi28 (fin cfg fi28) jF28 lF28 := Classical.choose_spec (exT fi28 (fin cfg fi28))
theorem e_tree_Set (a0_0 : Int) (a0_1 : List PV) : wc W n_tree_Set [(PV.agg [(PV.int .i64 a0_0), (PV.slice 3 a0_1)])] =
  (((wc W n_tree_set [(PV.agg [(PV.int .i64 a0_0), (PV.slice 3 a0_1)]), (PV.int .i64 (4 : Int))])).bind (fun v1 => (((PV.asTup v1)).bind (fun v2 => (((v2)[0]?).bind (fun v3 => (c_i64 v3 (fun v4 => (((PV.asTup v1)).bind (fun v5 => (((v5)[1]?).bind (fun v6 => (c_b v6 (fun v7 => (bif (!v7) then (some (PV.int .i64 (0 : Int))) else (some (PV.int .i64 v4))))))))))))))))) := go (by kernel_rfl) (by kernel_rfl) T28 (by kernel_rfl)
noncomputable def jF29 : Jn PV := (Classical.choose (exT fi29 (fin cfg fi29))).1
noncomputable def lF29 : Ln PV := (Classical.choose (exT fi29 (fin cfg fi29))).2
theorem T29 : Tied cfg W fi29 (fin cfg fi29) jF29 lF29 := Classical.choose_spec (exT fi29 (fin cfg fi29))
noncomputable def L_roadbookref06_Size_1 (i1 : Int) (i2 : Int) (l3 : List PV) (i4 : Int) (i5 : Int) : Option PV := lF29 [0, 1, 0, 1, 1] 0 (St.mk [(1, (AV.pv (PV.int .i64 i1))), (2, (AV.pv (PV.imm 3 (PV.agg [(PV.int .i64 i2), (PV.slice 3 l3)]) 0))), (5, (AV.pv (PV.int .i64 i4))), (6, (AV.pv (PV.int .i64 i5)))] [])
noncomputable def J_roadbookref06_Size_2 (i6 : Int) (i7 : Int) (l8 : List PV) (i9 : Int) (i10 : Int) : Option PV := jF29 [1, 0, 0, 1, 0, 1, 1] (St.mk [(1, (AV.pv (PV.int .i64 i6))), (2, (AV.pv (PV.imm 3 (PV.agg [(PV.int .i64 i7), (PV.slice 3 l8)]) 0))), (5, (AV.pv (PV.int .i64 i9))), (6, (AV.pv (PV.int .i64 i10)))] [])
theorem L_roadbookref06_Size_1_eq (i1 : Int) (i2 : Int) (l3 : List PV) (i4 : Int) (i5 : Int) : L_roadbookref06_Size_1 i1 i2 l3 i4 i5 =
  (bif (decide (i5 < (((List.length l3) : Nat) : Int))) then (bif (decide (i4 ≤ i1)) then (J_roadbookref06_Size_2 i1 i2 l3 i4 i5) else (some (PV.int .i64 i4))) else (some (PV.int .i64 i4))) := (T29.loop [1, 1, 0, 1, 0] 0 _ rfl).trans (by kernel_rfl)
theorem J_roadbookref06_Size_2_eq (i6 : Int) (i7 : Int) (l8 : List PV) (i9 : Int) (i10 : Int) : J_roadbookref06_Size_2 i6 i7 l8 i9 i10 =
  (bif (decide ((0 : Int) ≤ i10)) then (((l8)[(Int.toNat i10)]?).bind (fun v11 => (c_g_i64_s3 v11 (fun v12 v13 => (((wc W n_roadbookref06_Size [(PV.agg [(PV.int .i64 v12), (PV.slice 3 v13)]), (PV.int .i64 (IntKind.wrap .i64 (i6 - i9 : Int)))])).bind (fun v14 => (c_i64 v14 (fun v15 => (L_roadbookref06_Size_1 i6 i7 l8 (IntKind.wrap .i64 (i9 + v15 : Int)) (IntKind.wrap .i64 (i10 + (1 : Int) : Int))))))))))) else none) := (T29.join [1, 1, 0, 1, 0, 0, 1] _).trans (by kernel_rfl)
theorem e_roadbookref06_Size (a0_0 : Int) (a0_1 : List PV) (a1 : Int) : wc W n_roadbookref06_Size [(PV.agg [(PV.int .i64 a0_0), (PV.slice 3 a0_1)]), (PV.int .i64 a1)] =
  (L_roadbookref06_Size_1 a1 a0_0 a0_1 (1 : Int) (0 : Int)) := go (by kernel_rfl) (by kernel_rfl) T29 (by kernel_rfl)
noncomputable def jF35 : Jn PV := (Classical.choose (exT fi35 (fin cfg fi35))).1
noncomputable def lF35 : Ln PV := (Classical.choose (exT fi35 (fin cfg fi35))).2
theorem T35 : Tied cfg W fi35 (fin cfg fi35) jF35 lF35 := Classical.choose_spec (exT fi35 (fin cfg fi35))
noncomputable def J_roadbookref03_Like_1 (l3 : List PV) (l4 : List PV) (l5 : List PV) (l6 : List PV) : Option PV := jF35 [1, 1, 1] (St.mk [(2, (AV.pv (PV.imm 3 (PV.agg [(PV.slice 0 l3), (PV.slice 0 l4)]) 0))), (3, (AV.pv (PV.imm 3 (PV.agg [(PV.slice 0 l5), (PV.slice 0 l6)]) 0)))] [])
noncomputable def L_roadbookref03_Like_2 (l7 : List PV) (l8 : List PV) (l9 : List PV) (l10 : List PV) (i11 : Int) : Option PV := lF35 [0, 1, 0, 1, 1, 1] 0 (St.mk [(2, (AV.pv (PV.imm 3 (PV.agg [(PV.slice 0 l7), (PV.slice 0 l8)]) 0))), (3, (AV.pv (PV.imm 3 (PV.agg [(PV.slice 0 l9), (PV.slice 0 l10)]) 0))), (6, (AV.pv (PV.int .i64 i11)))] [])
theorem J_roadbookref03_Like_1_eq (l3 : List PV) (l4 : List PV) (l5 : List PV) (l6 : List PV) : J_roadbookref03_Like_1 l3 l4 l5 l6 =
  (L_roadbookref03_Like_2 l3 l4 l5 l6 (0 : Int)) := (T35.join [1, 1, 1] _).trans (by kernel_rfl)
theorem L_roadbookref03_Like_2_eq (l7 : List PV) (l8 : List PV) (l9 : List PV) (l10 : List PV) (i11 : Int) : L_roadbookref03_Like_2 l7 l8 l9 l10 i11 =
  (bif (decide (i11 < (((List.length l8) : Nat) : Int))) then (bif (decide ((0 : Int) ≤ i11)) then (((l8)[(Int.toNat i11)]?).bind (fun v12 => (c_s3 v12 (fun v13 => (bif (decide ((0 : Int) ≤ i11)) then (((l10)[(Int.toNat i11)]?).bind (fun v14 => (c_s3 v14 (fun v15 => (((wc W n_roadbookref03_Row [(PV.slice 3 v13), (PV.slice 3 v15)])).bind (fun v16 => (c_b v16 (fun v17 => (bif (!v17) then (some (PV.bool false)) else (L_roadbookref03_Like_2 l7 l8 l9 l10 (IntKind.wrap .i64 (i11 + (1 : Int) : Int)))))))))))) else none))))) else none) else (some (PV.bool true))) := (T35.loop [1, 1, 1, 0, 1, 0] 0 _ rfl).trans (by kernel_rfl)
theorem e_roadbookref03_Like (a0_0 : List PV) (a0_1 : List PV) (a1_0 : List PV) (a1_1 : List PV) : wc W n_roadbookref03_Like [(PV.agg [(PV.slice 0 a0_0), (PV.slice 0 a0_1)]), (PV.agg [(PV.slice 0 a1_0), (PV.slice 0 a1_1)])] =
  (((wc W n_roadbookref02_Ints [(PV.slice 0 a0_0), (PV.slice 0 a1_0)])).bind (fun v1 => (c_b v1 (fun v2 => (bif (!v2) then (some (PV.bool false)) else (bif ((((List.length a0_1) : Nat) : Int) != (((List.length a1_1) : Nat) : Int)) then (some (PV.bool false)) else (J_roadbookref03_Like_1 a0_0 a0_1 a1_0 a1_1))))))) := go (by kernel_rfl) (by kernel_rfl) T35 (by kernel_rfl)
noncomputable def jF39 : Jn PV := (Classical.choose (exT fi39 (fin cfg fi39))).1
noncomputable def lF39 : Ln PV := (Classical.choose (exT fi39 (fin cfg fi39))).2
theorem T39 : Tied cfg W fi39 (fin cfg fi39) jF39 lF39 := Classical.choose_spec (exT fi39 (fin cfg fi39))
noncomputable def J_bag_Pick_1 (l5 : List PV) (l6 : List PV) (l7 : List PV) : Option PV := jF39 [1, 1] (St.mk [(1, (AV.pv (PV.slice 0 l5))), (2, (AV.pv (PV.imm 3 (PV.agg [(PV.slice 0 l6), (PV.slice 0 l7)]) 0))), (4, (AV.own 0 0))] [(Ob.var false 3 (AV.agg [(AV.nil 0), (AV.nil 0)]))])
noncomputable def L_bag_Pick_2 (l8 : List PV) (l9 : List PV) (l10 : List PV) (l11 : List PV) (i12 : Int) (i13 : Int) (l14 : List PV) : Option PV := lF39 [0, 1, 0, 1, 1, 1] 2 (St.mk [(1, (AV.pv (PV.slice 0 l8))), (2, (AV.pv (PV.imm 3 (PV.agg [(PV.slice 0 l9), (PV.slice 0 l10)]) 0))), (4, (AV.own 0 0)), (6, (AV.view 1 0 none)), (26, (AV.pv (PV.slice 0 l11))), (27, (AV.pv (PV.int .i64 i12))), (28, (AV.pv (PV.int .i64 i13)))] [(Ob.var false 3 (AV.agg [(AV.nil 0), (AV.nil 0)])), (Ob.row false 0 0 l14)])
noncomputable def L_bag_Pick_3 (l21 : List PV) (i22 : Int) (i23 : Int) (l24 : List PV) (l25 : List PV) (l26 : List PV) (l27 : List PV) (l28 : List PV) : Option PV := lF39 [0, 1, 0, 1, 1, 1, 1, 1] 6 (St.mk [(4, (AV.own 0 0)), (6, (AV.view 1 0 none)), (10, (AV.own 4 0)), (48, (AV.pv (PV.slice 0 l21))), (49, (AV.pv (PV.int .i64 i22))), (50, (AV.pv (PV.int .i64 i23)))] [(Ob.var false 3 (AV.agg [(AV.nil 0), (AV.nil 0)])), (Ob.row false 0 0 l24), (Ob.row false 0 0 l25), (Ob.row false 0 0 l26), (Ob.var false 3 (AV.agg [(AV.pv (PV.slice 0 l27)), (AV.view 5 0 none)])), (Ob.row false 0 0 l28)])
noncomputable def L_bag_Pick_4 (l31 : List PV) (l32 : List PV) (i33 : Int) (i34 : Int) (i35 : Int) (i36 : Int) (l37 : List PV) (l38 : List PV) (l39 : List PV) (l40 : List PV) (l41 : List PV) (l42 : List PV) : Option PV := lF39 [0, 1, 0, 1, 1, 0, 0, 1, 1, 6, 0, 1, 0, 1, 1, 1, 1, 1] 7 (St.mk [(4, (AV.own 0 0)), (6, (AV.view 1 0 none)), (10, (AV.own 4 0)), (12, (AV.pv (PV.slice 3 l31))), (13, (AV.view 6 0 none)), (48, (AV.pv (PV.slice 0 l32))), (49, (AV.pv (PV.int .i64 i33))), (50, (AV.pv (PV.int .i64 i34))), (54, (AV.view 1 0 none)), (55, (AV.pv (PV.int .i64 i35))), (56, (AV.pv (PV.int .i64 i36)))] [(Ob.var false 3 (AV.agg [(AV.nil 0), (AV.nil 0)])), (Ob.row false 0 0 l37), (Ob.row false 0 0 l38), (Ob.row false 0 0 l39), (Ob.var false 3 (AV.agg [(AV.pv (PV.slice 0 l40)), (AV.view 5 0 none)])), (Ob.row false 0 0 l41), (Ob.row false 0 3 l42)])
theorem J_bag_Pick_1_eq (l5 : List PV) (l6 : List PV) (l7 : List PV) : J_bag_Pick_1 l5 l6 l7 =
  (L_bag_Pick_2 l5 l6 l7 l5 (((List.length l5) : Nat) : Int) (0 : Int) []) := (T39.join [1, 1] _).trans (by kernel_rfl)
theorem L_bag_Pick_2_eq (l8 : List PV) (l9 : List PV) (l10 : List PV) (l11 : List PV) (i12 : Int) (i13 : Int) (l14 : List PV) : L_bag_Pick_2 l8 l9 l10 l11 i12 i13 l14 =
  (bif (decide (i13 < i12)) then (bif (decide ((0 : Int) ≤ i13)) then (((l11)[(Int.toNat i13)]?).bind (fun v15 => (c_i64 v15 (fun v16 => (((wc W n_slices_Index_int_int [(PV.slice 0 l9), (PV.int .i64 v16)])).bind (fun v17 => (c_i64 v17 (fun v18 => (bif (decide (v18 < (0 : Int))) then (some (PV.tup [(PV.agg [(PV.slice 0 []), (PV.slice 0 [])]), (PV.bool false)])) else (bif (true && (decide (((List.length l14) + 1 : Nat) ≤ 4294967296))) then (L_bag_Pick_2 l8 l9 l10 l11 i12 (IntKind.wrap .i64 (i13 + (1 : Int) : Int)) (l14 ++ [(PV.int .i64 v18)])) else none)))))))))) else none) else (((wc W n_slices_Clone_int_int [(PV.slice 0 l8)])).bind (fun v19 => (c_s0 v19 (fun v20 => (L_bag_Pick_3 l10 (((List.length l10) : Nat) : Int) (0 : Int) l14 [] [] v20 [])))))) := (T39.loop [1, 1, 1, 0, 1, 0] 2 _ rfl).trans (by kernel_rfl)
theorem L_bag_Pick_3_eq (l21 : List PV) (i22 : Int) (i23 : Int) (l24 : List PV) (l25 : List PV) (l26 : List PV) (l27 : List PV) (l28 : List PV) : L_bag_Pick_3 l21 i22 i23 l24 l25 l26 l27 l28 =
  (bif (decide (i23 < i22)) then (bif (decide ((0 : Int) ≤ i23)) then (((l21)[(Int.toNat i23)]?).bind (fun v29 => (c_s3 v29 (fun v30 => (L_bag_Pick_4 v30 l21 i22 i23 (((List.length l24) : Nat) : Int) (0 : Int) l24 l25 l26 l27 l28 []))))) else none) else (some (PV.tup [(PV.agg [(PV.slice 0 l27), (PV.slice 0 l28)]), (PV.bool true)]))) := (T39.loop [1, 1, 1, 1, 1, 0, 1, 0] 6 _ rfl).trans (by kernel_rfl)
theorem L_bag_Pick_4_eq (l31 : List PV) (l32 : List PV) (i33 : Int) (i34 : Int) (i35 : Int) (i36 : Int) (l37 : List PV) (l38 : List PV) (l39 : List PV) (l40 : List PV) (l41 : List PV) (l42 : List PV) : L_bag_Pick_4 l31 l32 i33 i34 i35 i36 l37 l38 l39 l40 l41 l42 =
  (bif (decide (i36 < i35)) then (bif ((true && (decide ((0 : Int) ≤ i36))) && (decide (i36 < (((List.length l37) : Nat) : Int)))) then (((l37)[(0 + (Int.toNat i36) : Nat)]?).bind (fun v43 => (c_i64 v43 (fun v44 => (bif (decide ((0 : Int) ≤ v44)) then (((l31)[(Int.toNat v44)]?).bind (fun v45 => (c_g_i64_i64 v45 (fun v46 v47 => (bif (true && (decide (((List.length l42) + 1 : Nat) ≤ 4294967296))) then (L_bag_Pick_4 l31 l32 i33 i34 i35 (IntKind.wrap .i64 (i36 + (1 : Int) : Int)) l37 l38 l39 l40 l41 (l42 ++ [(PV.agg [(PV.int .i64 v46), (PV.int .i64 v47)])])) else none))))) else none))))) else none) else (bif (true && (decide (((List.length l41) + 1 : Nat) ≤ 4294967296))) then (L_bag_Pick_3 l32 i33 (IntKind.wrap .i64 (i34 + (1 : Int) : Int)) l37 l38 l39 l40 (l41 ++ [(PV.slice 3 l42)])) else none)) := (T39.loop [1, 1, 1, 1, 1, 0, 1, 0, 6, 1, 1, 0, 0, 1, 1, 0, 1, 0] 7 _ rfl).trans (by kernel_rfl)
theorem e_bag_Pick (a0_0 : List PV) (a0_1 : List PV) (a1 : List PV) : wc W n_bag_Pick [(PV.agg [(PV.slice 0 a0_0), (PV.slice 0 a0_1)]), (PV.slice 0 a1)] =
  (((wc W n_bag_May [(PV.agg [(PV.slice 0 a0_0), (PV.slice 0 a0_1)])])).bind (fun v1 => (c_b v1 (fun v2 => (bif (!v2) then (some (PV.tup [(PV.agg [(PV.slice 0 []), (PV.slice 0 [])]), (PV.bool false)])) else (((wc W n_bag_May [(PV.agg [(PV.slice 0 a1), (PV.slice 0 [])])])).bind (fun v3 => (c_b v3 (fun v4 => (bif (!v4) then (some (PV.tup [(PV.agg [(PV.slice 0 []), (PV.slice 0 [])]), (PV.bool false)])) else (J_bag_Pick_1 a1 a0_0 a0_1))))))))))) := go (by kernel_rfl) (by kernel_rfl) T39 (by kernel_rfl)
noncomputable def jF40 : Jn PV := (Classical.choose (exT fi40 (fin cfg fi40))).1
noncomputable def lF40 : Ln PV := (Classical.choose (exT fi40 (fin cfg fi40))).2
theorem T40 : Tied cfg W fi40 (fin cfg fi40) jF40 lF40 := Classical.choose_spec (exT fi40 (fin cfg fi40))
theorem e_query_Own (a0_0 : List PV) (a0_1 : List PV) (a0_2 : Int) (a0_3 : List PV) (a0_4 : List PV) (a0_5 : Int) (a1 : Int) : wc W n_query_Own [(PV.agg [(PV.slice 0 a0_0), (PV.slice 6 a0_1), (PV.int .i64 a0_2), (PV.slice 0 a0_3), (PV.slice 0 a0_4), (PV.int .i64 a0_5)]), (PV.int .i64 a1)] =
  (((wc W n_query_some [(PV.agg [(PV.slice 0 a0_0), (PV.slice 6 a0_1), (PV.int .i64 a0_2), (PV.slice 0 a0_3), (PV.slice 0 a0_4), (PV.int .i64 a0_5)]), (PV.fn n_query_set_holds [(PV.int .i64 a1)] [])])).bind (fun v1 => (c_s0 v1 (fun v2 => (some (PV.slice 0 v2)))))) := go (by kernel_rfl) (by kernel_rfl) T40 (by kernel_rfl)
noncomputable def jF41 : Jn PV := (Classical.choose (exT fi41 (fin cfg fi41))).1
noncomputable def lF41 : Ln PV := (Classical.choose (exT fi41 (fin cfg fi41))).2
theorem T41 : Tied cfg W fi41 (fin cfg fi41) jF41 lF41 := Classical.choose_spec (exT fi41 (fin cfg fi41))
noncomputable def L_bag_May_1 (l1 : List PV) (l2 : List PV) (l3 : List PV) (i4 : Int) (i5 : Int) (b6 : Bool) (b7 : Bool) (b8 : Bool) (b9 : Bool) (b10 : Bool) (b11 : Bool) (b12 : Bool) (b13 : Bool) (b14 : Bool) (b15 : Bool) (b16 : Bool) (b17 : Bool) (b18 : Bool) (b19 : Bool) (b20 : Bool) (b21 : Bool) : Option PV := lF41 [0, 1, 0, 1, 1] 1 (St.mk [(1, (AV.pv (PV.imm 3 (PV.agg [(PV.slice 0 l1), (PV.slice 0 l2)]) 0))), (3, (AV.own 0 0)), (10, (AV.pv (PV.slice 0 l3))), (11, (AV.pv (PV.int .i64 i4))), (12, (AV.pv (PV.int .i64 i5)))] [(Ob.var false 17 (AV.pv (PV.agg [(PV.bool b6), (PV.bool b7), (PV.bool b8), (PV.bool b9), (PV.bool b10), (PV.bool b11), (PV.bool b12), (PV.bool b13), (PV.bool b14), (PV.bool b15), (PV.bool b16), (PV.bool b17), (PV.bool b18), (PV.bool b19), (PV.bool b20), (PV.bool b21)])))])
noncomputable def L_bag_May_2 (l26 : List PV) (l27 : List PV) (l28 : List PV) (i29 : Int) (i30 : Int) (b31 : Bool) (b32 : Bool) (b33 : Bool) (b34 : Bool) (b35 : Bool) (b36 : Bool) (b37 : Bool) (b38 : Bool) (b39 : Bool) (b40 : Bool) (b41 : Bool) (b42 : Bool) (b43 : Bool) (b44 : Bool) (b45 : Bool) (b46 : Bool) : Option PV := lF41 [0, 1, 0, 1, 1, 1, 1] 1 (St.mk [(1, (AV.pv (PV.imm 3 (PV.agg [(PV.slice 0 l26), (PV.slice 0 l27)]) 0))), (6, (AV.pv (PV.fn n_bag_May_1 [] []))), (31, (AV.pv (PV.slice 0 l28))), (32, (AV.pv (PV.int .i64 i29))), (33, (AV.pv (PV.int .i64 i30)))] [(Ob.var false 17 (AV.pv (PV.agg [(PV.bool b31), (PV.bool b32), (PV.bool b33), (PV.bool b34), (PV.bool b35), (PV.bool b36), (PV.bool b37), (PV.bool b38), (PV.bool b39), (PV.bool b40), (PV.bool b41), (PV.bool b42), (PV.bool b43), (PV.bool b44), (PV.bool b45), (PV.bool b46)])))])
theorem L_bag_May_1_eq (l1 : List PV) (l2 : List PV) (l3 : List PV) (i4 : Int) (i5 : Int) (b6 : Bool) (b7 : Bool) (b8 : Bool) (b9 : Bool) (b10 : Bool) (b11 : Bool) (b12 : Bool) (b13 : Bool) (b14 : Bool) (b15 : Bool) (b16 : Bool) (b17 : Bool) (b18 : Bool) (b19 : Bool) (b20 : Bool) (b21 : Bool) : L_bag_May_1 l1 l2 l3 i4 i5 b6 b7 b8 b9 b10 b11 b12 b13 b14 b15 b16 b17 b18 b19 b20 b21 =
  (bif (decide (i5 < i4)) then (bif (decide ((0 : Int) ≤ i5)) then (((l3)[(Int.toNat i5)]?).bind (fun v22 => (c_i64 v22 (fun v23 => (bif (decide (v23 < (0 : Int))) then (some (PV.bool false)) else (bif (decide (GT.gt v23 (15 : Int))) then (some (PV.bool false)) else (bif ((decide ((0 : Int) ≤ v23)) && (decide (v23 < (16 : Int)))) then (((PV.load 17 (PV.agg [(PV.bool b6), (PV.bool b7), (PV.bool b8), (PV.bool b9), (PV.bool b10), (PV.bool b11), (PV.bool b12), (PV.bool b13), (PV.bool b14), (PV.bool b15), (PV.bool b16), (PV.bool b17), (PV.bool b18), (PV.bool b19), (PV.bool b20), (PV.bool b21)]) (0 + ((Int.toNat v23) * 1 : Nat) : Nat) 0)).bind (fun v24 => (c_b v24 (fun v25 => (bif v25 then (some (PV.bool false)) else (bif ((decide ((0 : Int) ≤ v23)) && (decide (v23 < (16 : Int)))) then (bif ((decide (((0 + ((Int.toNat v23) * 1 : Nat) : Nat) + 1 : Nat) ≤ 16)) && true) then (L_bag_May_1 l1 l2 l3 i4 (IntKind.wrap .i64 (i5 + (1 : Int) : Int)) (bif (0 == (0 + ((Int.toNat v23) * 1 : Nat) : Nat)) then true else b6) (bif (1 == (0 + ((Int.toNat v23) * 1 : Nat) : Nat)) then true else b7) (bif (2 == (0 + ((Int.toNat v23) * 1 : Nat) : Nat)) then true else b8) (bif (3 == (0 + ((Int.toNat v23) * 1 : Nat) : Nat)) then true else b9) (bif (4 == (0 + ((Int.toNat v23) * 1 : Nat) : Nat)) then true else b10) (bif (5 == (0 + ((Int.toNat v23) * 1 : Nat) : Nat)) then true else b11) (bif (6 == (0 + ((Int.toNat v23) * 1 : Nat) : Nat)) then true else b12) (bif (7 == (0 + ((Int.toNat v23) * 1 : Nat) : Nat)) then true else b13) (bif (8 == (0 + ((Int.toNat v23) * 1 : Nat) : Nat)) then true else b14) (bif (9 == (0 + ((Int.toNat v23) * 1 : Nat) : Nat)) then true else b15) (bif (10 == (0 + ((Int.toNat v23) * 1 : Nat) : Nat)) then true else b16) (bif (11 == (0 + ((Int.toNat v23) * 1 : Nat) : Nat)) then true else b17) (bif (12 == (0 + ((Int.toNat v23) * 1 : Nat) : Nat)) then true else b18) (bif (13 == (0 + ((Int.toNat v23) * 1 : Nat) : Nat)) then true else b19) (bif (14 == (0 + ((Int.toNat v23) * 1 : Nat) : Nat)) then true else b20) (bif (15 == (0 + ((Int.toNat v23) * 1 : Nat) : Nat)) then true else b21)) else none) else none)))))) else none))))))) else none) else (L_bag_May_2 l1 l2 l2 (((List.length l2) : Nat) : Int) (0 : Int) b6 b7 b8 b9 b10 b11 b12 b13 b14 b15 b16 b17 b18 b19 b20 b21)) := (T41.loop [1, 1, 0, 1, 0] 1 _ rfl).trans (by kernel_rfl)
theorem L_bag_May_2_eq (l26 : List PV) (l27 : List PV) (l28 : List PV) (i29 : Int) (i30 : Int) (b31 : Bool) (b32 : Bool) (b33 : Bool) (b34 : Bool) (b35 : Bool) (b36 : Bool) (b37 : Bool) (b38 : Bool) (b39 : Bool) (b40 : Bool) (b41 : Bool) (b42 : Bool) (b43 : Bool) (b44 : Bool) (b45 : Bool) (b46 : Bool) : L_bag_May_2 l26 l27 l28 i29 i30 b31 b32 b33 b34 b35 b36 b37 b38 b39 b40 b41 b42 b43 b44 b45 b46 =
  (bif (decide (i30 < i29)) then (bif (decide ((0 : Int) ≤ i30)) then (((l28)[(Int.toNat i30)]?).bind (fun v47 => (c_s3 v47 (fun v48 => (bif ((((List.length v48) : Nat) : Int) != (((List.length l26) : Nat) : Int)) then (some (PV.bool false)) else (((wc W n_slices_ContainsFunc_api_Val_api_Val_c5fc [(PV.slice 3 v48), (PV.fn n_bag_May_1 [] [])])).bind (fun v49 => (c_b v49 (fun v50 => (bif v50 then (some (PV.bool false)) else (L_bag_May_2 l26 l27 l28 i29 (IntKind.wrap .i64 (i30 + (1 : Int) : Int)) b31 b32 b33 b34 b35 b36 b37 b38 b39 b40 b41 b42 b43 b44 b45 b46))))))))))) else none) else (some (PV.bool (decide ((((List.length l27) : Nat) : Int) ≤ (5000 : Int)))))) := (T41.loop [1, 1, 1, 1, 0, 1, 0] 1 _ rfl).trans (by kernel_rfl)
theorem e_bag_May (a0_0 : List PV) (a0_1 : List PV) : wc W n_bag_May [(PV.agg [(PV.slice 0 a0_0), (PV.slice 0 a0_1)])] =
  (L_bag_May_1 a0_0 a0_1 a0_0 (((List.length a0_0) : Nat) : Int) (0 : Int) false false false false false false false false false false false false false false false false) := go (by kernel_rfl) (by kernel_rfl) T41 (by kernel_rfl)
noncomputable def jF42 : Jn PV := (Classical.choose (exT fi42 (fin cfg fi42))).1
noncomputable def lF42 : Ln PV := (Classical.choose (exT fi42 (fin cfg fi42))).2
theorem T42 : Tied cfg W fi42 (fin cfg fi42) jF42 lF42 := Classical.choose_spec (exT fi42 (fin cfg fi42))
theorem e_bag_Keep (a0_0 : List PV) (a0_1 : List PV) (a1 : List PV) : wc W n_bag_Keep [(PV.agg [(PV.slice 0 a0_0), (PV.slice 0 a0_1)]), (PV.slice 6 a1)] =
  (((wc W n_bag_some [(PV.agg [(PV.slice 0 a0_0), (PV.slice 0 a0_1)]), (PV.fn n_bag_Keep_1 [] [(PV.imm 0 (PV.slice 6 a1) 0), (PV.imm 3 (PV.agg [(PV.slice 0 a0_0), (PV.slice 0 a0_1)]) 0)])])).bind (fun v1 => (c_g_s0_s0 v1 (fun v2 v3 => (some (PV.agg [(PV.slice 0 v2), (PV.slice 0 v3)])))))) := go (by kernel_rfl) (by kernel_rfl) T42 (by kernel_rfl)
noncomputable def jF50 : Jn PV := (Classical.choose (exT fi50 (fin cfg fi50))).1
noncomputable def lF50 : Ln PV := (Classical.choose (exT fi50 (fin cfg fi50))).2
theorem T50 : Tied cfg W fi50 (fin cfg fi50) jF50 lF50 := Classical.choose_spec (exT fi50 (fin cfg fi50))
noncomputable def J_data_Fits_1 (l3 : List PV) (l4 : List PV) : Option PV := jF50 [1, 1] (St.mk [(2, (AV.pv (PV.imm 2 (PV.agg [(PV.slice 3 l3)]) 0))), (3, (AV.pv (PV.imm 2 (PV.agg [(PV.slice 0 l4)]) 0)))] [])
noncomputable def L_data_Fits_2 (l5 : List PV) (l6 : List PV) (i7 : Int) (i8 : Int) : Option PV := lF50 [0, 1, 0, 1, 1] 0 (St.mk [(2, (AV.pv (PV.imm 2 (PV.agg [(PV.slice 3 l5)]) 0))), (21, (AV.pv (PV.slice 0 l6))), (22, (AV.pv (PV.int .i64 i7))), (23, (AV.pv (PV.int .i64 i8)))] [])
theorem J_data_Fits_1_eq (l3 : List PV) (l4 : List PV) : J_data_Fits_1 l3 l4 =
  (L_data_Fits_2 l3 l4 (((List.length l4) : Nat) : Int) (0 : Int)) := (T50.join [1, 1] _).trans (by kernel_rfl)
theorem L_data_Fits_2_eq (l5 : List PV) (l6 : List PV) (i7 : Int) (i8 : Int) : L_data_Fits_2 l5 l6 i7 i8 =
  (bif (decide (i8 < i7)) then (bif (decide ((0 : Int) ≤ i8)) then (((l6)[(Int.toNat i8)]?).bind (fun v9 => (c_s0 v9 (fun v10 => (bif (decide (GT.gt (((List.length v10) : Nat) : Int) (8 : Int))) then (some (PV.bool false)) else (((W n_slices_ContainsFunc_api_Val_api_Val_3020 false [(AV.pv (PV.slice 0 v10)), (AV.fnv n_data_Fits_1 [] [(AV.pv (PV.imm 2 (PV.agg [(PV.slice 3 l5)]) 0)), (AV.own 0 0)])] [(Ob.var false 0 (AV.pv (PV.int .i64 i8)))])).bind (fun v14 => (k_5b106d v14 (fun v15 v16 => (c_b v15 (fun v17 => (bif v17 then (some (PV.bool false)) else (L_data_Fits_2 l5 l6 i7 (IntKind.wrap .i64 (i8 + (1 : Int) : Int))))))))))))))) else none) else (some (PV.bool true))) := (T50.loop [1, 1, 0, 1, 0] 0 _ rfl).trans (by kernel_rfl)
theorem e_data_Fits (a0_0 : List PV) (a1_0 : List PV) : wc W n_data_Fits [(PV.agg [(PV.slice 3 a0_0)]), (PV.agg [(PV.slice 0 a1_0)])] =
  (((wc W n_data_May [(PV.agg [(PV.slice 3 a0_0)])])).bind (fun v1 => (c_b v1 (fun v2 => (bif (!v2) then (some (PV.bool false)) else (bif ((((List.length a1_0) : Nat) : Int) != (((List.length a0_0) : Nat) : Int)) then (some (PV.bool false)) else (J_data_Fits_1 a0_0 a1_0))))))) := go (by kernel_rfl) (by kernel_rfl) T50 (by kernel_rfl)
noncomputable def jF54 : Jn PV := (Classical.choose (exT fi54 (fin cfg fi54))).1
noncomputable def lF54 : Ln PV := (Classical.choose (exT fi54 (fin cfg fi54))).2
theorem T54 : Tied cfg W fi54 (fin cfg fi54) jF54 lF54 := Classical.choose_spec (exT fi54 (fin cfg fi54))
noncomputable def L_slices_Index_int_int_1 (l1 : List PV) (i2 : Int) (i3 : Int) (i4 : Int) : Option PV := lF54 [0, 1, 0, 1] 0 (St.mk [(0, (AV.pv (PV.slice 0 l1))), (1, (AV.pv (PV.int .i64 i2))), (7, (AV.pv (PV.int .i64 i3))), (8, (AV.pv (PV.int .i64 i4)))] [])
theorem L_slices_Index_int_int_1_eq (l1 : List PV) (i2 : Int) (i3 : Int) (i4 : Int) : L_slices_Index_int_int_1 l1 i2 i3 i4 =
  (bif (decide (i4 < i3)) then (bif (decide ((0 : Int) ≤ i4)) then (((l1)[(Int.toNat i4)]?).bind (fun v5 => (c_i64 v5 (fun v6 => (bif (i2 == v6) then (some (PV.int .i64 i4)) else (L_slices_Index_int_int_1 l1 i2 i3 (IntKind.wrap .i64 (i4 + (1 : Int) : Int)))))))) else none) else (some (PV.int .i64 (-1 : Int)))) := (T54.loop [1, 0, 1, 0] 0 _ rfl).trans (by kernel_rfl)
theorem e_slices_Index_int_int (a0 : List PV) (a1 : Int) : wc W n_slices_Index_int_int [(PV.slice 0 a0), (PV.int .i64 a1)] =
  (L_slices_Index_int_int_1 a0 a1 (((List.length a0) : Nat) : Int) (0 : Int)) := go (by kernel_rfl) (by kernel_rfl) T54 (by kernel_rfl)
noncomputable def jF59 : Jn PV := (Classical.choose (exT fi59 (fin cfg fi59))).1
noncomputable def lF59 : Ln PV := (Classical.choose (exT fi59 (fin cfg fi59))).2
theorem T59 : Tied cfg W fi59 (fin cfg fi59) jF59 lF59 := Classical.choose_spec (exT fi59 (fin cfg fi59))
theorem e_roadbooklaw05_Far (a0_0 : List PV) (a1_0 : List PV) (a1_1 : List PV) (a1_2 : Int) (a1_3 : List PV) (a1_4 : List PV) (a1_5 : Int) : wc W n_roadbooklaw05_Far [(PV.agg [(PV.slice 3 a0_0)]), (PV.agg [(PV.slice 0 a1_0), (PV.slice 6 a1_1), (PV.int .i64 a1_2), (PV.slice 0 a1_3), (PV.slice 0 a1_4), (PV.int .i64 a1_5)])] =
  (((wc W n_roadbooklaw05_few [(PV.agg [(PV.slice 3 a0_0)]), (PV.agg [(PV.slice 0 a1_0), (PV.slice 6 a1_1), (PV.int .i64 a1_2), (PV.slice 0 a1_3), (PV.slice 0 a1_4), (PV.int .i64 a1_5)])])).bind (fun v1 => (c_b v1 (fun v2 => (bif v2 then (some (PV.int .i64 (0 : Int))) else (some (PV.int .i64 (1 : Int)))))))) := go (by kernel_rfl) (by kernel_rfl) T59 (by kernel_rfl)
noncomputable def jF60 : Jn PV := (Classical.choose (exT fi60 (fin cfg fi60))).1
noncomputable def lF60 : Ln PV := (Classical.choose (exT fi60 (fin cfg fi60))).2
theorem T60 : Tied cfg W fi60 (fin cfg fi60) jF60 lF60 := Classical.choose_spec (exT fi60 (fin cfg fi60))
theorem e_roadbooklaw04_Far (a0_0 : List PV) : wc W n_roadbooklaw04_Far [(PV.agg [(PV.slice 0 a0_0)])] =
  (((wc W n_roadbooklaw04_few [(PV.agg [(PV.slice 0 a0_0)])])).bind (fun v1 => (c_b v1 (fun v2 => (bif v2 then (some (PV.int .i64 (0 : Int))) else (some (PV.int .i64 (1 : Int)))))))) := go (by kernel_rfl) (by kernel_rfl) T60 (by kernel_rfl)
noncomputable def jF63 : Jn PV := (Classical.choose (exT fi63 (fin cfg fi63))).1
noncomputable def lF63 : Ln PV := (Classical.choose (exT fi63 (fin cfg fi63))).2
theorem T63 : Tied cfg W fi63 (fin cfg fi63) jF63 lF63 := Classical.choose_spec (exT fi63 (fin cfg fi63))
theorem e_means_must (a0_0 : List PV) (a0_1 : List PV) (a1 : Bool) : wc W n_means_must [(PV.agg [(PV.slice 0 a0_0), (PV.slice 0 a0_1)]), (PV.bool a1)] =
  (bif (!a1) then none else (some (PV.agg [(PV.slice 0 a0_0), (PV.slice 0 a0_1)]))) := go (by kernel_rfl) (by kernel_rfl) T63 (by kernel_rfl)
noncomputable def jF64 : Jn PV := (Classical.choose (exT fi64 (fin cfg fi64))).1
noncomputable def lF64 : Ln PV := (Classical.choose (exT fi64 (fin cfg fi64))).2
theorem T64 : Tied cfg W fi64 (fin cfg fi64) jF64 lF64 := Classical.choose_spec (exT fi64 (fin cfg fi64))
noncomputable def J_data_Of_1 (i7 : Int) (i8 : Int) (l9 : List PV) (l10 : List PV) : Option PV := jF64 [1, 1] (St.mk [(2, (AV.pv (PV.int .i64 i7))), (3, (AV.pv (PV.int .i64 i8))), (4, (AV.pv (PV.imm 2 (PV.agg [(PV.slice 3 l9)]) 0))), (5, (AV.pv (PV.imm 2 (PV.agg [(PV.slice 0 l10)]) 0))), (8, (AV.own 0 0))] [(Ob.var false 3 (AV.agg [(AV.nil 0), (AV.nil 0)]))])
noncomputable def L_data_Of_2 (i14 : Int) (i15 : Int) (l16 : List PV) (i17 : Int) (i18 : Int) (l19 : List PV) : Option PV := lF64 [0, 1, 0, 1, 1, 1] 2 (St.mk [(2, (AV.pv (PV.int .i64 i14))), (3, (AV.pv (PV.int .i64 i15))), (5, (AV.pv (PV.imm 2 (PV.agg [(PV.slice 0 l16)]) 0))), (8, (AV.own 0 0)), (10, (AV.view 1 0 none)), (36, (AV.pv (PV.int .i64 i17))), (37, (AV.pv (PV.int .i64 i18)))] [(Ob.var false 3 (AV.agg [(AV.nil 0), (AV.nil 0)])), (Ob.row false 0 0 l19)])
theorem J_data_Of_1_eq (i7 : Int) (i8 : Int) (l9 : List PV) (l10 : List PV) : J_data_Of_1 i7 i8 l9 l10 =
  (bif (decide ((0 : Int) ≤ i7)) then (((l9)[(Int.toNat i7)]?).bind (fun v11 => (((PV.load 3 v11 0 0)).bind (fun v12 => (c_i64 v12 (fun v13 => (L_data_Of_2 i7 i8 l10 v13 (0 : Int) []))))))) else none) := (T64.join [1, 1] _).trans (by kernel_rfl)
theorem L_data_Of_2_eq (i14 : Int) (i15 : Int) (l16 : List PV) (i17 : Int) (i18 : Int) (l19 : List PV) : L_data_Of_2 i14 i15 l16 i17 i18 l19 =
  (bif (decide (i18 < i17)) then (((wc W n_data_Col [(PV.int .i64 i15), (PV.int .i64 i18)])).bind (fun v20 => (c_i64 v20 (fun v21 => (bif (true && (decide (((List.length l19) + 1 : Nat) ≤ 4294967296))) then (L_data_Of_2 i14 i15 l16 i17 (IntKind.wrap .i64 (i18 + (1 : Int) : Int)) (l19 ++ [(PV.int .i64 v21)])) else none))))) else (bif (decide ((0 : Int) ≤ i14)) then (((l16)[(Int.toNat i14)]?).bind (fun v22 => (c_s0 v22 (fun v23 => (((wc W n_bag_Keep [(PV.agg [(PV.slice 0 l19), (PV.slice 0 v23)]), (PV.slice 6 [])])).bind (fun v24 => (c_g_s0_s0 v24 (fun v25 v26 => (some (PV.tup [(PV.agg [(PV.slice 0 v25), (PV.slice 0 v26)]), (PV.bool true)])))))))))) else none)) := (T64.loop [1, 1, 1, 0, 1, 0] 2 _ rfl).trans (by kernel_rfl)
theorem e_data_Of (a0_0 : List PV) (a1_0 : List PV) (a2 : Int) (a3 : Int) : wc W n_data_Of [(PV.agg [(PV.slice 3 a0_0)]), (PV.agg [(PV.slice 0 a1_0)]), (PV.int .i64 a2), (PV.int .i64 a3)] =
  (((wc W n_data_Fits [(PV.agg [(PV.slice 3 a0_0)]), (PV.agg [(PV.slice 0 a1_0)])])).bind (fun v1 => (c_b v1 (fun v2 => (bif (!v2) then (some (PV.tup [(PV.agg [(PV.slice 0 []), (PV.slice 0 [])]), (PV.bool false)])) else (((wc W n_data_in [(PV.int .i64 a2), (PV.int .i64 (0 : Int)), (PV.int .i64 (IntKind.wrap .i64 ((((List.length a0_0) : Nat) : Int) - (1 : Int) : Int)))])).bind (fun v3 => (c_b v3 (fun v4 => (bif (!v4) then (some (PV.tup [(PV.agg [(PV.slice 0 []), (PV.slice 0 [])]), (PV.bool false)])) else (((wc W n_data_Col [(PV.int .i64 a3), (PV.int .i64 (0 : Int))])).bind (fun v5 => (c_i64 v5 (fun v6 => (bif (v6 == (-1 : Int)) then (some (PV.tup [(PV.agg [(PV.slice 0 []), (PV.slice 0 [])]), (PV.bool false)])) else (J_data_Of_1 a2 a3 a0_0 a1_0)))))))))))))))) := go (by kernel_rfl) (by kernel_rfl) T64 (by kernel_rfl)
noncomputable def jF65 : Jn PV := (Classical.choose (exT fi65 (fin cfg fi65))).1
noncomputable def lF65 : Ln PV := (Classical.choose (exT fi65 (fin cfg fi65))).2
theorem T65 : Tied cfg W fi65 (fin cfg fi65) jF65 lF65 := Classical.choose_spec (exT fi65 (fin cfg fi65))
noncomputable def J_bag_Cross_1 (l9 : List PV) (l10 : List PV) (l11 : List PV) (l12 : List PV) (l13 : List PV) (l14 : List PV) (l15 : List PV) (l16 : List PV) : Option PV := jF65 [1, 1, 1] (St.mk [(2, (AV.pv (PV.imm 3 (PV.agg [(PV.slice 0 l9), (PV.slice 0 l10)]) 0))), (3, (AV.pv (PV.imm 3 (PV.agg [(PV.slice 0 l11), (PV.slice 0 l12)]) 0))), (4, (AV.own 0 0)), (6, (AV.own 3 0))] [(Ob.var false 3 (AV.agg [(AV.nil 0), (AV.nil 0)])), (Ob.row false 0 0 l13), (Ob.row false 0 0 l14), (Ob.var false 3 (AV.agg [(AV.pv (PV.slice 0 l15)), (AV.view 4 0 none)])), (Ob.row true 0 0 l16)])
noncomputable def L_bag_Cross_2 (l17 : List PV) (l18 : List PV) (l19 : List PV) (i20 : Int) (i21 : Int) (l22 : List PV) (l23 : List PV) (l24 : List PV) (l25 : List PV) : Option PV := lF65 [0, 1, 0, 1, 1, 1] 5 (St.mk [(3, (AV.pv (PV.imm 3 (PV.agg [(PV.slice 0 l17), (PV.slice 0 l18)]) 0))), (4, (AV.own 0 0)), (6, (AV.own 3 0)), (45, (AV.pv (PV.slice 0 l19))), (46, (AV.pv (PV.int .i64 i20))), (47, (AV.pv (PV.int .i64 i21)))] [(Ob.var false 3 (AV.agg [(AV.nil 0), (AV.nil 0)])), (Ob.row false 0 0 l22), (Ob.row false 0 0 l23), (Ob.var false 3 (AV.agg [(AV.pv (PV.slice 0 l24)), (AV.view 4 0 none)])), (Ob.row true 0 0 l25)])
noncomputable def L_bag_Cross_3 (l28 : List PV) (l29 : List PV) (l30 : List PV) (l31 : List PV) (i32 : Int) (i33 : Int) (l34 : List PV) (i35 : Int) (i36 : Int) (l37 : List PV) (l38 : List PV) (l39 : List PV) (l40 : List PV) : Option PV := lF65 [0, 1, 1, 0, 0, 1, 1, 5, 0, 1, 0, 1, 1, 1] 5 (St.mk [(3, (AV.pv (PV.imm 3 (PV.agg [(PV.slice 0 l28), (PV.slice 0 l29)]) 0))), (4, (AV.own 0 0)), (6, (AV.own 3 0)), (8, (AV.pv (PV.slice 3 l30))), (45, (AV.pv (PV.slice 0 l31))), (46, (AV.pv (PV.int .i64 i32))), (47, (AV.pv (PV.int .i64 i33))), (52, (AV.pv (PV.slice 0 l34))), (53, (AV.pv (PV.int .i64 i35))), (54, (AV.pv (PV.int .i64 i36)))] [(Ob.var false 3 (AV.agg [(AV.nil 0), (AV.nil 0)])), (Ob.row false 0 0 l37), (Ob.row false 0 0 l38), (Ob.var false 3 (AV.agg [(AV.pv (PV.slice 0 l39)), (AV.view 4 0 none)])), (Ob.row true 0 0 l40)])
theorem J_bag_Cross_1_eq (l9 : List PV) (l10 : List PV) (l11 : List PV) (l12 : List PV) (l13 : List PV) (l14 : List PV) (l15 : List PV) (l16 : List PV) : J_bag_Cross_1 l9 l10 l11 l12 l13 l14 l15 l16 =
  (L_bag_Cross_2 l11 l12 l10 (((List.length l10) : Nat) : Int) (0 : Int) l13 l14 l15 l16) := (T65.join [1, 1, 1] _).trans (by kernel_rfl)
theorem L_bag_Cross_2_eq (l17 : List PV) (l18 : List PV) (l19 : List PV) (i20 : Int) (i21 : Int) (l22 : List PV) (l23 : List PV) (l24 : List PV) (l25 : List PV) : L_bag_Cross_2 l17 l18 l19 i20 i21 l22 l23 l24 l25 =
  (bif (decide (i21 < i20)) then (bif (decide ((0 : Int) ≤ i21)) then (((l19)[(Int.toNat i21)]?).bind (fun v26 => (c_s3 v26 (fun v27 => (L_bag_Cross_3 l17 l18 v27 l19 i20 i21 l18 (((List.length l18) : Nat) : Int) (0 : Int) l22 l23 l24 l25))))) else none) else (some (PV.tup [(PV.agg [(PV.slice 0 l24), (PV.slice 0 l25)]), (PV.bool true)]))) := (T65.loop [1, 1, 1, 0, 1, 0] 5 _ rfl).trans (by kernel_rfl)
theorem L_bag_Cross_3_eq (l28 : List PV) (l29 : List PV) (l30 : List PV) (l31 : List PV) (i32 : Int) (i33 : Int) (l34 : List PV) (i35 : Int) (i36 : Int) (l37 : List PV) (l38 : List PV) (l39 : List PV) (l40 : List PV) : L_bag_Cross_3 l28 l29 l30 l31 i32 i33 l34 i35 i36 l37 l38 l39 l40 =
  (bif (decide (i36 < i35)) then (bif (decide ((0 : Int) ≤ i36)) then (((l34)[(Int.toNat i36)]?).bind (fun v41 => (c_s3 v41 (fun v42 => (((wc W n_slices_Concat_api_Val_api_Val [(PV.slice 0 [(PV.slice 3 l30), (PV.slice 3 v42)])])).bind (fun v43 => (c_s3 v43 (fun v44 => (bif (true && (decide (((List.length l40) + 1 : Nat) ≤ 4294967296))) then (L_bag_Cross_3 l28 l29 l30 l31 i32 i33 l34 i35 (IntKind.wrap .i64 (i36 + (1 : Int) : Int)) l37 l38 l39 (l40 ++ [(PV.slice 3 v44)])) else none))))))))) else none) else (L_bag_Cross_2 l28 l29 l31 i32 (IntKind.wrap .i64 (i33 + (1 : Int) : Int)) l37 l38 l39 l40)) := (T65.loop [1, 1, 1, 0, 1, 0, 5, 1, 1, 0, 0, 1, 1, 0] 5 _ rfl).trans (by kernel_rfl)
theorem e_bag_Cross (a0_0 : List PV) (a0_1 : List PV) (a1_0 : List PV) (a1_1 : List PV) : wc W n_bag_Cross [(PV.agg [(PV.slice 0 a0_0), (PV.slice 0 a0_1)]), (PV.agg [(PV.slice 0 a1_0), (PV.slice 0 a1_1)])] =
  (((wc W n_slices_Concat_int_int [(PV.slice 0 [(PV.slice 0 a0_0), (PV.slice 0 a1_0)])])).bind (fun v1 => (c_s0 v1 (fun v2 => (((wc W n_bag_May [(PV.agg [(PV.slice 0 a0_0), (PV.slice 0 a0_1)])])).bind (fun v3 => (c_b v3 (fun v4 => (bif (!v4) then (some (PV.tup [(PV.agg [(PV.slice 0 []), (PV.slice 0 [])]), (PV.bool false)])) else (((wc W n_bag_May [(PV.agg [(PV.slice 0 a1_0), (PV.slice 0 a1_1)])])).bind (fun v5 => (c_b v5 (fun v6 => (bif (!v6) then (some (PV.tup [(PV.agg [(PV.slice 0 []), (PV.slice 0 [])]), (PV.bool false)])) else (((wc W n_bag_May [(PV.agg [(PV.slice 0 v2), (PV.slice 0 [])])])).bind (fun v7 => (c_b v7 (fun v8 => (bif (!v8) then (some (PV.tup [(PV.agg [(PV.slice 0 []), (PV.slice 0 [])]), (PV.bool false)])) else (bif (decide (GT.gt (IntKind.wrap .i64 ((((List.length a0_1) : Nat) : Int) * (((List.length a1_1) : Nat) : Int) : Int)) (5000 : Int))) then (some (PV.tup [(PV.agg [(PV.slice 0 []), (PV.slice 0 [])]), (PV.bool false)])) else (J_bag_Cross_1 a0_0 a0_1 a1_0 a1_1 [] [] v2 []))))))))))))))))))))) := go (by kernel_rfl) (by kernel_rfl) T65 (by kernel_rfl)
noncomputable def jF66 : Jn PV := (Classical.choose (exT fi66 (fin cfg fi66))).1
noncomputable def lF66 : Ln PV := (Classical.choose (exT fi66 (fin cfg fi66))).2
theorem T66 : Tied cfg W fi66 (fin cfg fi66) jF66 lF66 := Classical.choose_spec (exT fi66 (fin cfg fi66))
theorem e_query_May_1 (a0 : Int) (c0_0 : List PV) : wc W n_query_May_1 [(PV.int .i64 a0), (PV.imm 2 (PV.agg [(PV.slice 3 c0_0)]) 0)] =
  (bif (decide (a0 < (0 : Int))) then (some (PV.bool true)) else (some (PV.bool (decide (GE.ge a0 (((List.length c0_0) : Nat) : Int)))))) := go (by kernel_rfl) (by kernel_rfl) T66 (by kernel_rfl)
noncomputable def jF67 : Jn PV := (Classical.choose (exT fi67 (fin cfg fi67))).1
noncomputable def lF67 : Ln PV := (Classical.choose (exT fi67 (fin cfg fi67))).2
theorem T67 : Tied cfg W fi67 (fin cfg fi67) jF67 lF67 := Classical.choose_spec (exT fi67 (fin cfg fi67))
theorem e_data_May (a0_0 : List PV) : wc W n_data_May [(PV.agg [(PV.slice 3 a0_0)])] =
  (((wc W n_data_in [(PV.int .i64 (((List.length a0_0) : Nat) : Int)), (PV.int .i64 (1 : Int)), (PV.int .i64 (4 : Int))])).bind (fun v1 => (c_b v1 (fun v2 => (bif v2 then (((wc W n_slices_ContainsFunc_api_Def_api_Def [(PV.slice 3 a0_0), (PV.fn n_data_May_1 [] [])])).bind (fun v3 => (c_b v3 (fun v4 => (some (PV.bool (!v4))))))) else (some (PV.bool false))))))) := go (by kernel_rfl) (by kernel_rfl) T67 (by kernel_rfl)
noncomputable def jF68 : Jn PV := (Classical.choose (exT fi68 (fin cfg fi68))).1
noncomputable def lF68 : Ln PV := (Classical.choose (exT fi68 (fin cfg fi68))).2
theorem T68 : Tied cfg W fi68 (fin cfg fi68) jF68 lF68 := Classical.choose_spec (exT fi68 (fin cfg fi68))
theorem e_slices_ContainsFunc_int_int (a0 : List PV) (a1 : PV) : wc W n_slices_ContainsFunc_int_int [(PV.slice 0 a0), a1] =
  (((wc W n_slices_IndexFunc_int_int [(PV.slice 0 a0), a1])).bind (fun v1 => (c_i64 v1 (fun v2 => (some (PV.bool (decide (GE.ge v2 (0 : Int))))))))) := go (by kernel_rfl) (by kernel_rfl) T68 (by kernel_rfl)
noncomputable def jF69 : Jn PV := (Classical.choose (exT fi69 (fin cfg fi69))).1
noncomputable def lF69 : Ln PV := (Classical.choose (exT fi69 (fin cfg fi69))).2
theorem T69 : Tied cfg W fi69 (fin cfg fi69) jF69 lF69 := Classical.choose_spec (exT fi69 (fin cfg fi69))
noncomputable def L_query_all_1 (p1 : PV) (l2 : List PV) (l3 : List PV) (l4 : List PV) (i5 : Int) (l6 : List PV) (l7 : List PV) (i8 : Int) (i9 : Int) (i10 : Int) (l11 : List PV) : Option PV := lF69 [0, 1, 0, 1, 1] 1 (St.mk [(2, (AV.pv p1)), (3, (AV.pv (PV.imm 2 (PV.agg [(PV.slice 3 l2)]) 0))), (4, (AV.pv (PV.imm 7 (PV.agg [(PV.slice 0 l3), (PV.slice 6 l4), (PV.int .i64 i5), (PV.slice 0 l6), (PV.slice 0 l7), (PV.int .i64 i8)]) 0))), (7, (AV.view 0 0 none)), (14, (AV.pv (PV.int .i64 i9))), (15, (AV.pv (PV.int .i64 i10)))] [(Ob.row false 0 0 l11)])
noncomputable def J_query_all_2 (p17 : PV) (l18 : List PV) (l19 : List PV) (l20 : List PV) (i21 : Int) (l22 : List PV) (l23 : List PV) (i24 : Int) (i25 : Int) (i26 : Int) (i27 : Int) (i28 : Int) (l29 : List PV) : Option PV := jF69 [1, 1, 1, 0, 0, 1, 1, 1, 0, 1, 0, 1, 1] (St.mk [(2, (AV.pv p17)), (3, (AV.pv (PV.imm 2 (PV.agg [(PV.slice 3 l18)]) 0))), (4, (AV.pv (PV.imm 7 (PV.agg [(PV.slice 0 l19), (PV.slice 6 l20), (PV.int .i64 i21), (PV.slice 0 l22), (PV.slice 0 l23), (PV.int .i64 i24)]) 0))), (7, (AV.view 0 0 none)), (8, (AV.pv (PV.int .i64 i25))), (9, (AV.pv (PV.int .i64 i26))), (14, (AV.pv (PV.int .i64 i27))), (15, (AV.pv (PV.int .i64 i28)))] [(Ob.row false 0 0 l29)])
noncomputable def L_query_all_3 (p33 : PV) (l34 : List PV) (l35 : List PV) (l36 : List PV) (i37 : Int) (l38 : List PV) (l39 : List PV) (i40 : Int) (i41 : Int) (i42 : Int) (i43 : Int) (i44 : Int) (i45 : Int) (l46 : List PV) : Option PV := lF69 [0, 1, 1, 1, 1, 0, 0, 1, 1, 1, 0, 1, 0, 1, 1] 1 (St.mk [(2, (AV.pv p33)), (3, (AV.pv (PV.imm 2 (PV.agg [(PV.slice 3 l34)]) 0))), (4, (AV.pv (PV.imm 7 (PV.agg [(PV.slice 0 l35), (PV.slice 6 l36), (PV.int .i64 i37), (PV.slice 0 l38), (PV.slice 0 l39), (PV.int .i64 i40)]) 0))), (7, (AV.view 0 0 none)), (8, (AV.pv (PV.int .i64 i41))), (14, (AV.pv (PV.int .i64 i42))), (15, (AV.pv (PV.int .i64 i43))), (43, (AV.pv (PV.int .i64 i44))), (44, (AV.pv (PV.int .i64 i45)))] [(Ob.row false 0 0 l46)])
theorem L_query_all_1_eq (p1 : PV) (l2 : List PV) (l3 : List PV) (l4 : List PV) (i5 : Int) (l6 : List PV) (l7 : List PV) (i8 : Int) (i9 : Int) (i10 : Int) (l11 : List PV) : L_query_all_1 p1 l2 l3 l4 i5 l6 l7 i8 i9 i10 l11 =
  (bif (decide (i10 < i9)) then (bif (decide ((0 : Int) ≤ i10)) then (((l3)[(Int.toNat i10)]?).bind (fun v12 => (c_i64 v12 (fun v13 => (((PV.asFn p1)).bind (fun v14 => (((wc W (Prod.fst v14) (((Prod.fst (Prod.snd v14)) ++ [(PV.int .i64 i10)]) ++ (Prod.snd (Prod.snd v14))))).bind (fun v15 => (c_b v15 (fun v16 => (bif (!v16) then (L_query_all_1 p1 l2 l3 l4 i5 l6 l7 i8 i9 (IntKind.wrap .i64 (i10 + (1 : Int) : Int)) l11) else (bif (decide (v13 < (0 : Int))) then (L_query_all_1 p1 l2 l3 l4 i5 l6 l7 i8 i9 (IntKind.wrap .i64 (i10 + (1 : Int) : Int)) l11) else (bif (decide (GE.ge v13 (((List.length l2) : Nat) : Int))) then (L_query_all_1 p1 l2 l3 l4 i5 l6 l7 i8 i9 (IntKind.wrap .i64 (i10 + (1 : Int) : Int)) l11) else (J_query_all_2 p1 l2 l3 l4 i5 l6 l7 i8 i10 v13 i9 i10 l11)))))))))))))) else none) else (some (PV.slice 0 l11))) := (T69.loop [1, 1, 0, 1, 0] 1 _ rfl).trans (by kernel_rfl)
theorem J_query_all_2_eq (p17 : PV) (l18 : List PV) (l19 : List PV) (l20 : List PV) (i21 : Int) (l22 : List PV) (l23 : List PV) (i24 : Int) (i25 : Int) (i26 : Int) (i27 : Int) (i28 : Int) (l29 : List PV) : J_query_all_2 p17 l18 l19 l20 i21 l22 l23 i24 i25 i26 i27 i28 l29 =
  (bif (decide ((0 : Int) ≤ i26)) then (((l18)[(Int.toNat i26)]?).bind (fun v30 => (((PV.load 3 v30 0 0)).bind (fun v31 => (c_i64 v31 (fun v32 => (L_query_all_3 p17 l18 l19 l20 i21 l22 l23 i24 i25 i27 i28 v32 (0 : Int) l29))))))) else none) := (T69.join [1, 1, 0, 1, 0, 1, 1, 1, 0, 0, 1, 1, 1] _).trans (by kernel_rfl)
theorem L_query_all_3_eq (p33 : PV) (l34 : List PV) (l35 : List PV) (l36 : List PV) (i37 : Int) (l38 : List PV) (l39 : List PV) (i40 : Int) (i41 : Int) (i42 : Int) (i43 : Int) (i44 : Int) (i45 : Int) (l46 : List PV) : L_query_all_3 p33 l34 l35 l36 i37 l38 l39 i40 i41 i42 i43 i44 i45 l46 =
  (bif (decide (i45 < i44)) then (((wc W n_data_Col [(PV.int .i64 i41), (PV.int .i64 i45)])).bind (fun v47 => (c_i64 v47 (fun v48 => (bif (true && (decide (((List.length l46) + 1 : Nat) ≤ 4294967296))) then (L_query_all_3 p33 l34 l35 l36 i37 l38 l39 i40 i41 i42 i43 i44 (IntKind.wrap .i64 (i45 + (1 : Int) : Int)) (l46 ++ [(PV.int .i64 v48)])) else none))))) else (L_query_all_1 p33 l34 l35 l36 i37 l38 l39 i40 i42 (IntKind.wrap .i64 (i43 + (1 : Int) : Int)) l46)) := (T69.loop [1, 1, 0, 1, 0, 1, 1, 1, 0, 0, 1, 1, 1, 1, 0] 1 _ rfl).trans (by kernel_rfl)
theorem e_query_all (a0_0 : List PV) (a1_0 : List PV) (a1_1 : List PV) (a1_2 : Int) (a1_3 : List PV) (a1_4 : List PV) (a1_5 : Int) (a2 : PV) : wc W n_query_all [(PV.agg [(PV.slice 3 a0_0)]), (PV.agg [(PV.slice 0 a1_0), (PV.slice 6 a1_1), (PV.int .i64 a1_2), (PV.slice 0 a1_3), (PV.slice 0 a1_4), (PV.int .i64 a1_5)]), a2] =
  (L_query_all_1 a2 a0_0 a1_0 a1_1 a1_2 a1_3 a1_4 a1_5 (bif (decide ((4 : Int) < (((List.length a1_0) : Nat) : Int))) then (4 : Int) else (((List.length a1_0) : Nat) : Int)) (0 : Int) []) := go (by kernel_rfl) (by kernel_rfl) T69 (by kernel_rfl)
end Go.Cf

namespace Go.Cf
open Go Go.Ab
set_option linter.unusedVariables false
set_option maxRecDepth 100000
noncomputable def jF70 : Jn PV := (Classical.choose (exT fi70 (fin cfg fi70))).1
noncomputable def lF70 : Ln PV := (Classical.choose (exT fi70 (fin cfg fi70))).2
theorem T70 : Tied cfg W fi70 (fin cfg fi70) jF70 lF70 := Classical.choose_spec (exT fi70 (fin cfg fi70))
theorem e_query_May_2 (a0 : Int) : wc W n_query_May_2 [(PV.int .i64 a0)] =
  (some (PV.bool true)) := go (by kernel_rfl) (by kernel_rfl) T70 (by kernel_rfl)
noncomputable def jF71 : Jn PV := (Classical.choose (exT fi71 (fin cfg fi71))).1
noncomputable def lF71 : Ln PV := (Classical.choose (exT fi71 (fin cfg fi71))).2
theorem T71 : Tied cfg W fi71 (fin cfg fi71) jF71 lF71 := Classical.choose_spec (exT fi71 (fin cfg fi71))
theorem e_expr_Cols (a0_0 : Int) (a0_1 : Int) (a0_2 : Int) (a0_3 : Int) (a0_4 : List PV) : wc W n_expr_Cols [(PV.agg [(PV.int .i64 a0_0), (PV.int .i64 a0_1), (PV.int .i64 a0_2), (PV.int .i64 a0_3), (PV.slice 6 a0_4)])] =
  (((wc W n_expr_May [(PV.agg [(PV.int .i64 a0_0), (PV.int .i64 a0_1), (PV.int .i64 a0_2), (PV.int .i64 a0_3), (PV.slice 6 a0_4)])])).bind (fun v1 => (c_b v1 (fun v2 => (bif (!v2) then (some (PV.slice 0 [])) else (((W n_expr_each false [(AV.pv (PV.agg [(PV.int .i64 a0_0), (PV.int .i64 a0_1), (PV.int .i64 a0_2), (PV.int .i64 a0_3), (PV.slice 6 a0_4)])), (AV.pv (PV.int .i64 (1 : Int))), (AV.fnv n_expr_Cols_1 [] [(AV.own 0 0)])] [(Ob.var false 0 (AV.view 1 0 none)), (Ob.row false 0 0 [])])).bind (fun v10 => (k_b2223f v10 (fun v11 v12 => (c_b v11 (fun v13 => (((W n_slices_Sort_int_int false [(AV.fx 0 0)] [(Ob.fix 0 0 v12)])).bind (fun v15 => (k_cad770 v15 (fun v16 v17 => (((W n_slices_Compact_int_int false [(AV.view 0 0 none)] [(Ob.row false 0 0 v17)])).bind (fun v19 => (k_b7636c v19 (fun v20 => (c_s0 v20 (fun v21 => (some (PV.slice 0 v21))))))))))))))))))))))) := go (by kernel_rfl) (by kernel_rfl) T71 (by kernel_rfl)
noncomputable def jF72 : Jn PV := (Classical.choose (exT fi72 (fin cfg fi72))).1
noncomputable def lF72 : Ln PV := (Classical.choose (exT fi72 (fin cfg fi72))).2
theorem T72 : Tied cfg W fi72 (fin cfg fi72) jF72 lF72 := Classical.choose_spec (exT fi72 (fin cfg fi72))
theorem e_query_within (a0 : List PV) (a1 : List PV) : wc W n_query_within [(PV.slice 0 a0), (PV.slice 0 a1)] =
  (((wc W n_slices_ContainsFunc_int_int [(PV.slice 0 a0), (PV.fn n_query_within_1 [] [(PV.imm 0 (PV.slice 0 a1) 0)])])).bind (fun v1 => (c_b v1 (fun v2 => (some (PV.bool (!v2))))))) := go (by kernel_rfl) (by kernel_rfl) T72 (by kernel_rfl)
noncomputable def jF73 : Jn PV := (Classical.choose (exT fi73 (fin cfg fi73))).1
noncomputable def lF73 : Ln PV := (Classical.choose (exT fi73 (fin cfg fi73))).2
theorem T73 : Tied cfg W fi73 (fin cfg fi73) jF73 lF73 := Classical.choose_spec (exT fi73 (fin cfg fi73))
theorem e_query_once (a0 : List PV) : wc W n_query_once [(PV.slice 0 a0)] =
  (((W n_slices_Clone_int_int true [(AV.pv (PV.slice 0 a0))] [])).bind (fun v2 => (k_d697de v2 (fun v3 => (((W n_slices_Sort_int_int false [(AV.fx 0 0)] [(Ob.fix 0 0 v3)])).bind (fun v5 => (k_cad770 v5 (fun v6 v7 => (((W n_slices_Compact_int_int false [(AV.view 0 0 none)] [(Ob.row false 0 0 v7)])).bind (fun v9 => (k_b7636c v9 (fun v10 => (c_s0 v10 (fun v11 => (some (PV.bool ((((List.length v11) : Nat) : Int) == (((List.length a0) : Nat) : Int)))))))))))))))))) := go (by kernel_rfl) (by kernel_rfl) T73 (by kernel_rfl)
noncomputable def jF74 : Jn PV := (Classical.choose (exT fi74 (fin cfg fi74))).1
noncomputable def lF74 : Ln PV := (Classical.choose (exT fi74 (fin cfg fi74))).2
theorem T74 : Tied cfg W fi74 (fin cfg fi74) jF74 lF74 := Classical.choose_spec (exT fi74 (fin cfg fi74))
theorem e_slices_Contains_int_int (a0 : List PV) (a1 : Int) : wc W n_slices_Contains_int_int [(PV.slice 0 a0), (PV.int .i64 a1)] =
  (((wc W n_slices_Index_int_int [(PV.slice 0 a0), (PV.int .i64 a1)])).bind (fun v1 => (c_i64 v1 (fun v2 => (some (PV.bool (decide (GE.ge v2 (0 : Int))))))))) := go (by kernel_rfl) (by kernel_rfl) T74 (by kernel_rfl)
noncomputable def jF77 : Jn PV := (Classical.choose (exT fi77 (fin cfg fi77))).1
noncomputable def lF77 : Ln PV := (Classical.choose (exT fi77 (fin cfg fi77))).2
theorem T77 : Tied cfg W fi77 (fin cfg fi77) jF77 lF77 := Classical.choose_spec (exT fi77 (fin cfg fi77))
theorem e_tree_May (a0_0 : Int) (a0_1 : List PV) : wc W n_tree_May [(PV.agg [(PV.int .i64 a0_0), (PV.slice 3 a0_1)])] =
  (((wc W n_tree_set [(PV.agg [(PV.int .i64 a0_0), (PV.slice 3 a0_1)]), (PV.int .i64 (4 : Int))])).bind (fun v1 => (((PV.asTup v1)).bind (fun v2 => (((v2)[0]?).bind (fun v3 => (c_i64 v3 (fun v4 => (((PV.asTup v1)).bind (fun v5 => (((v5)[1]?).bind (fun v6 => (c_b v6 (fun v7 => (some (PV.bool v7)))))))))))))))) := go (by kernel_rfl) (by kernel_rfl) T77 (by kernel_rfl)
noncomputable def jF78o1 : Jn (AV × List Ob) := (Classical.choose (exT fi78 (finO cfg fi78 false 1))).1
noncomputable def lF78o1 : Ln (AV × List Ob) := (Classical.choose (exT fi78 (finO cfg fi78 false 1))).2
theorem T78o1 : Tied cfg W fi78 (finO cfg fi78 false 1) jF78o1 lF78o1 := Classical.choose_spec (exT fi78 (finO cfg fi78 false 1))
theorem o_means_Rows_1_o1_1 (i0 : Int) (l1 : List PV) (l2 : List PV) (l3 : List PV) (l4 : List PV) (l5 : List PV) (i6 : Int) (l7 : List PV) (l8 : List PV) (i9 : Int) (l10 : List PV) (l11 : List PV) (l12 : List PV) (l13 : List PV) (i14 : Int) (l15 : List PV) (l16 : List PV) (i17 : Int) : W n_means_Rows_1 false [(AV.pv (PV.agg [(PV.int .i64 i0), (PV.slice 3 l1)])), (AV.pv (PV.imm 2 (PV.agg [(PV.slice 3 l2)]) 0)), (AV.pv (PV.imm 2 (PV.agg [(PV.slice 0 l3)]) 0)), (AV.pv (PV.imm 7 (PV.agg [(PV.slice 0 l4), (PV.slice 6 l5), (PV.int .i64 i6), (PV.slice 0 l7), (PV.slice 0 l8), (PV.int .i64 i9)]) 0)), (AV.own 0 0)] [(Ob.var false 0 (AV.fnv n_means_Rows_1 [] [(AV.pv (PV.imm 2 (PV.agg [(PV.slice 3 l10)]) 0)), (AV.pv (PV.imm 2 (PV.agg [(PV.slice 0 l11)]) 0)), (AV.pv (PV.imm 7 (PV.agg [(PV.slice 0 l12), (PV.slice 6 l13), (PV.int .i64 i14), (PV.slice 0 l15), (PV.slice 0 l16), (PV.int .i64 i17)]) 0)), (AV.own 0 0)]))] =
  (bif ((((List.length l1) : Nat) : Int) == (0 : Int)) then (bif (decide ((0 : Int) ≤ i0)) then (((l4)[(Int.toNat i0)]?).bind (fun v1 => (c_i64 v1 (fun v2 => (((wc W n_data_Of [(PV.agg [(PV.slice 3 l2)]), (PV.agg [(PV.slice 0 l3)]), (PV.int .i64 v2), (PV.int .i64 i0)])).bind (fun v3 => (((PV.asTup v3)).bind (fun v4 => (((v4)[0]?).bind (fun v5 => (c_g_s0_s0 v5 (fun v6 v7 => (((PV.asTup v3)).bind (fun v8 => (((v8)[1]?).bind (fun v9 => (c_b v9 (fun v10 => (((wc W n_means_must [(PV.agg [(PV.slice 0 v6), (PV.slice 0 v7)]), (PV.bool v10)])).bind (fun v11 => (c_g_s0_s0 v11 (fun v12 v13 => (((wc W n_tree_Set [(PV.agg [(PV.int .i64 i0), (PV.slice 3 l1)])])).bind (fun v14 => (c_i64 v14 (fun v15 => (((wc W n_query_Own [(PV.agg [(PV.slice 0 l4), (PV.slice 6 l5), (PV.int .i64 i6), (PV.slice 0 l7), (PV.slice 0 l8), (PV.int .i64 i9)]), (PV.int .i64 v15)])).bind (fun v16 => (c_s0 v16 (fun v17 => (((wc W n_means_of [(PV.agg [(PV.slice 0 l4), (PV.slice 6 l5), (PV.int .i64 i6), (PV.slice 0 l7), (PV.slice 0 l8), (PV.int .i64 i9)]), (PV.slice 0 v17)])).bind (fun v18 => (c_s6 v18 (fun v19 => (((wc W n_bag_Keep [(PV.agg [(PV.slice 0 v12), (PV.slice 0 v13)]), (PV.slice 6 v19)])).bind (fun v20 => (c_g_s0_s0 v20 (fun v21 v22 => (some ((AV.pv (PV.agg [(PV.slice 0 v21), (PV.slice 0 v22)])), [(Ob.var false 0 (AV.fnv n_means_Rows_1 [] [(AV.pv (PV.imm 2 (PV.agg [(PV.slice 3 l10)]) 0)), (AV.pv (PV.imm 2 (PV.agg [(PV.slice 0 l11)]) 0)), (AV.pv (PV.imm 7 (PV.agg [(PV.slice 0 l12), (PV.slice 6 l13), (PV.int .i64 i14), (PV.slice 0 l15), (PV.slice 0 l16), (PV.int .i64 i17)]) 0)), (AV.own 0 0)]))])))))))))))))))))))))))))))))))))))))))) else none) else (((l1)[0]?).bind (fun v23 => (c_g_i64_s3 v23 (fun v24 v25 => (((W n_means_Rows_1 false [(AV.pv (PV.agg [(PV.int .i64 v24), (PV.slice 3 v25)])), (AV.pv (PV.imm 2 (PV.agg [(PV.slice 3 l10)]) 0)), (AV.pv (PV.imm 2 (PV.agg [(PV.slice 0 l11)]) 0)), (AV.pv (PV.imm 7 (PV.agg [(PV.slice 0 l12), (PV.slice 6 l13), (PV.int .i64 i14), (PV.slice 0 l15), (PV.slice 0 l16), (PV.int .i64 i17)]) 0)), (AV.own 0 0)] [(Ob.var false 0 (AV.fnv n_means_Rows_1 [] [(AV.pv (PV.imm 2 (PV.agg [(PV.slice 3 l10)]) 0)), (AV.pv (PV.imm 2 (PV.agg [(PV.slice 0 l11)]) 0)), (AV.pv (PV.imm 7 (PV.agg [(PV.slice 0 l12), (PV.slice 6 l13), (PV.int .i64 i14), (PV.slice 0 l15), (PV.slice 0 l16), (PV.int .i64 i17)]) 0)), (AV.own 0 0)]))])).bind (fun v44 => (k_abad21 v44 (fun v45 v46 v47 v48 v49 v50 v51 v52 v53 => (bif (eqOw [(Ob.var false 0 (AV.fnv n_means_Rows_1 [] [(AV.pv (PV.imm 2 (PV.agg [(PV.slice 3 v46)]) 0)), (AV.pv (PV.imm 2 (PV.agg [(PV.slice 0 v47)]) 0)), (AV.pv (PV.imm 7 (PV.agg [(PV.slice 0 v48), (PV.slice 6 v49), (PV.int .i64 v50), (PV.slice 0 v51), (PV.slice 0 v52), (PV.int .i64 v53)]) 0)), (AV.own 0 0)])), (Ob.var false 3 (AV.agg [(AV.nil 0), (AV.nil 0)]))] [(Ob.var false 0 (AV.fnv n_means_Rows_1 [] [(AV.pv (PV.imm 2 (PV.agg [(PV.slice 3 l10)]) 0)), (AV.pv (PV.imm 2 (PV.agg [(PV.slice 0 l11)]) 0)), (AV.pv (PV.imm 7 (PV.agg [(PV.slice 0 l12), (PV.slice 6 l13), (PV.int .i64 i14), (PV.slice 0 l15), (PV.slice 0 l16), (PV.int .i64 i17)]) 0)), (AV.own 0 0)])), (Ob.var false 3 (AV.agg [(AV.nil 0), (AV.nil 0)]))]) then (c_g_s0_s0 v45 (fun v54 v55 => (((l1)[1]?).bind (fun v56 => (c_g_i64_s3 v56 (fun v57 v58 => (((W n_means_Rows_1 false [(AV.pv (PV.agg [(PV.int .i64 v57), (PV.slice 3 v58)])), (AV.pv (PV.imm 2 (PV.agg [(PV.slice 3 l10)]) 0)), (AV.pv (PV.imm 2 (PV.agg [(PV.slice 0 l11)]) 0)), (AV.pv (PV.imm 7 (PV.agg [(PV.slice 0 l12), (PV.slice 6 l13), (PV.int .i64 i14), (PV.slice 0 l15), (PV.slice 0 l16), (PV.int .i64 i17)]) 0)), (AV.own 0 0)] [(Ob.var false 0 (AV.fnv n_means_Rows_1 [] [(AV.pv (PV.imm 2 (PV.agg [(PV.slice 3 l10)]) 0)), (AV.pv (PV.imm 2 (PV.agg [(PV.slice 0 l11)]) 0)), (AV.pv (PV.imm 7 (PV.agg [(PV.slice 0 l12), (PV.slice 6 l13), (PV.int .i64 i14), (PV.slice 0 l15), (PV.slice 0 l16), (PV.int .i64 i17)]) 0)), (AV.own 0 0)]))])).bind (fun v77 => (k_abad21 v77 (fun v78 v79 v80 v81 v82 v83 v84 v85 v86 => (bif (eqOw [(Ob.var false 0 (AV.fnv n_means_Rows_1 [] [(AV.pv (PV.imm 2 (PV.agg [(PV.slice 3 v79)]) 0)), (AV.pv (PV.imm 2 (PV.agg [(PV.slice 0 v80)]) 0)), (AV.pv (PV.imm 7 (PV.agg [(PV.slice 0 v81), (PV.slice 6 v82), (PV.int .i64 v83), (PV.slice 0 v84), (PV.slice 0 v85), (PV.int .i64 v86)]) 0)), (AV.own 0 0)])), (Ob.var false 3 (AV.agg [(AV.nil 0), (AV.nil 0)]))] [(Ob.var false 0 (AV.fnv n_means_Rows_1 [] [(AV.pv (PV.imm 2 (PV.agg [(PV.slice 3 l10)]) 0)), (AV.pv (PV.imm 2 (PV.agg [(PV.slice 0 l11)]) 0)), (AV.pv (PV.imm 7 (PV.agg [(PV.slice 0 l12), (PV.slice 6 l13), (PV.int .i64 i14), (PV.slice 0 l15), (PV.slice 0 l16), (PV.int .i64 i17)]) 0)), (AV.own 0 0)])), (Ob.var false 3 (AV.agg [(AV.nil 0), (AV.nil 0)]))]) then (c_g_s0_s0 v78 (fun v87 v88 => (((wc W n_bag_Cross [(PV.agg [(PV.slice 0 v54), (PV.slice 0 v55)]), (PV.agg [(PV.slice 0 v87), (PV.slice 0 v88)])])).bind (fun v89 => (((PV.asTup v89)).bind (fun v90 => (((v90)[0]?).bind (fun v91 => (c_g_s0_s0 v91 (fun v92 v93 => (((PV.asTup v89)).bind (fun v94 => (((v94)[1]?).bind (fun v95 => (c_b v95 (fun v96 => (((wc W n_means_must [(PV.agg [(PV.slice 0 v92), (PV.slice 0 v93)]), (PV.bool v96)])).bind (fun v97 => (c_g_s0_s0 v97 (fun v98 v99 => (((l1)[0]?).bind (fun v100 => (c_g_i64_s3 v100 (fun v101 v102 => (((wc W n_tree_Set [(PV.agg [(PV.int .i64 v101), (PV.slice 3 v102)])])).bind (fun v103 => (c_i64 v103 (fun v104 => (((l1)[1]?).bind (fun v105 => (c_g_i64_s3 v105 (fun v106 v107 => (((wc W n_tree_Set [(PV.agg [(PV.int .i64 v106), (PV.slice 3 v107)])])).bind (fun v108 => (c_i64 v108 (fun v109 => (((wc W n_query_New [(PV.agg [(PV.slice 0 l4), (PV.slice 6 l5), (PV.int .i64 i6), (PV.slice 0 l7), (PV.slice 0 l8), (PV.int .i64 i9)]), (PV.int .i64 v104), (PV.int .i64 v109)])).bind (fun v110 => (c_s0 v110 (fun v111 => (((wc W n_means_of [(PV.agg [(PV.slice 0 l4), (PV.slice 6 l5), (PV.int .i64 i6), (PV.slice 0 l7), (PV.slice 0 l8), (PV.int .i64 i9)]), (PV.slice 0 v111)])).bind (fun v112 => (c_s6 v112 (fun v113 => (((wc W n_bag_Keep [(PV.agg [(PV.slice 0 v98), (PV.slice 0 v99)]), (PV.slice 6 v113)])).bind (fun v114 => (c_g_s0_s0 v114 (fun v115 v116 => (some ((AV.pv (PV.agg [(PV.slice 0 v115), (PV.slice 0 v116)])), [(Ob.var false 0 (AV.fnv n_means_Rows_1 [] [(AV.pv (PV.imm 2 (PV.agg [(PV.slice 3 l10)]) 0)), (AV.pv (PV.imm 2 (PV.agg [(PV.slice 0 l11)]) 0)), (AV.pv (PV.imm 7 (PV.agg [(PV.slice 0 l12), (PV.slice 6 l13), (PV.int .i64 i14), (PV.slice 0 l15), (PV.slice 0 l16), (PV.int .i64 i17)]) 0)), (AV.own 0 0)]))])))))))))))))))))))))))))))))))))))))))))))))))))) else none))))))))))) else none)))))))))) := goO (by kernel_rfl) (by kernel_rfl) T78o1 rfl (by kernel_rfl)
noncomputable def jF79 : Jn PV := (Classical.choose (exT fi79 (fin cfg fi79))).1
noncomputable def lF79 : Ln PV := (Classical.choose (exT fi79 (fin cfg fi79))).2
theorem T79 : Tied cfg W fi79 (fin cfg fi79) jF79 lF79 := Classical.choose_spec (exT fi79 (fin cfg fi79))
noncomputable def L_means_of_1 (l1 : List PV) (l2 : List PV) (i3 : Int) (l4 : List PV) (l5 : List PV) (i6 : Int) (l7 : List PV) (i8 : Int) (i9 : Int) (l10 : List PV) : Option PV := lF79 [0, 1, 0, 1, 1] 1 (St.mk [(2, (AV.pv (PV.imm 7 (PV.agg [(PV.slice 0 l1), (PV.slice 6 l2), (PV.int .i64 i3), (PV.slice 0 l4), (PV.slice 0 l5), (PV.int .i64 i6)]) 0))), (5, (AV.view 0 0 none)), (8, (AV.pv (PV.slice 0 l7))), (9, (AV.pv (PV.int .i64 i8))), (10, (AV.pv (PV.int .i64 i9)))] [(Ob.row false 0 6 l10)])
theorem L_means_of_1_eq (l1 : List PV) (l2 : List PV) (i3 : Int) (l4 : List PV) (l5 : List PV) (i6 : Int) (l7 : List PV) (i8 : Int) (i9 : Int) (l10 : List PV) : L_means_of_1 l1 l2 i3 l4 l5 i6 l7 i8 i9 l10 =
  (bif (decide (i9 < i8)) then (bif (decide ((0 : Int) ≤ i9)) then (((l7)[(Int.toNat i9)]?).bind (fun v11 => (c_i64 v11 (fun v12 => (bif (decide ((0 : Int) ≤ v12)) then (((l2)[(Int.toNat v12)]?).bind (fun v13 => (c_g_i64_i64_i64_i64_s6 v13 (fun v14 v15 v16 v17 v18 => (bif (true && (decide (((List.length l10) + 1 : Nat) ≤ 4294967296))) then (L_means_of_1 l1 l2 i3 l4 l5 i6 l7 i8 (IntKind.wrap .i64 (i9 + (1 : Int) : Int)) (l10 ++ [(PV.agg [(PV.int .i64 v14), (PV.int .i64 v15), (PV.int .i64 v16), (PV.int .i64 v17), (PV.slice 6 v18)])])) else none))))) else none))))) else none) else (some (PV.slice 6 l10))) := (T79.loop [1, 1, 0, 1, 0] 1 _ rfl).trans (by kernel_rfl)
theorem e_means_of (a0_0 : List PV) (a0_1 : List PV) (a0_2 : Int) (a0_3 : List PV) (a0_4 : List PV) (a0_5 : Int) (a1 : List PV) : wc W n_means_of [(PV.agg [(PV.slice 0 a0_0), (PV.slice 6 a0_1), (PV.int .i64 a0_2), (PV.slice 0 a0_3), (PV.slice 0 a0_4), (PV.int .i64 a0_5)]), (PV.slice 0 a1)] =
  (L_means_of_1 a0_0 a0_1 a0_2 a0_3 a0_4 a0_5 a1 (((List.length a1) : Nat) : Int) (0 : Int) []) := go (by kernel_rfl) (by kernel_rfl) T79 (by kernel_rfl)
noncomputable def jF80 : Jn PV := (Classical.choose (exT fi80 (fin cfg fi80))).1
noncomputable def lF80 : Ln PV := (Classical.choose (exT fi80 (fin cfg fi80))).2
theorem T80 : Tied cfg W fi80 (fin cfg fi80) jF80 lF80 := Classical.choose_spec (exT fi80 (fin cfg fi80))
theorem e_query_New (a0_0 : List PV) (a0_1 : List PV) (a0_2 : Int) (a0_3 : List PV) (a0_4 : List PV) (a0_5 : Int) (a1 : Int) (a2 : Int) : wc W n_query_New [(PV.agg [(PV.slice 0 a0_0), (PV.slice 6 a0_1), (PV.int .i64 a0_2), (PV.slice 0 a0_3), (PV.slice 0 a0_4), (PV.int .i64 a0_5)]), (PV.int .i64 a1), (PV.int .i64 a2)] =
  (((W n_query_some false [(AV.pv (PV.agg [(PV.slice 0 a0_0), (PV.slice 6 a0_1), (PV.int .i64 a0_2), (PV.slice 0 a0_3), (PV.slice 0 a0_4), (PV.int .i64 a0_5)])), (AV.fnv n_query_New_1 [] [(AV.own 0 0), (AV.own 1 0), (AV.own 2 0)])] [(Ob.var false 0 (AV.pv (PV.int .i64 (IntKind.wrap .i64 (((BitVec.toNat (HOr.hOr (BitVec.ofInt 64 a1) (BitVec.ofInt 64 a2))) : Nat) : Int))))), (Ob.var false 0 (AV.pv (PV.int .i64 a1))), (Ob.var false 0 (AV.pv (PV.int .i64 a2)))])).bind (fun v10 => (k_10961c v10 (fun v11 v12 v13 v14 => (c_s0 v11 (fun v15 => (some (PV.slice 0 v15)))))))) := go (by kernel_rfl) (by kernel_rfl) T80 (by kernel_rfl)
noncomputable def jF81o1 : Jn (AV × List Ob) := (Classical.choose (exT fi81 (finO cfg fi81 false 1))).1
noncomputable def lF81o1 : Ln (AV × List Ob) := (Classical.choose (exT fi81 (finO cfg fi81 false 1))).2
theorem T81o1 : Tied cfg W fi81 (finO cfg fi81 false 1) jF81o1 lF81o1 := Classical.choose_spec (exT fi81 (finO cfg fi81 false 1))
theorem o_means_Rows_2_o1_1 (i0 : Int) (l1 : List PV) (l2 : List PV) (l3 : List PV) (l4 : List PV) (l5 : List PV) (i6 : Int) (l7 : List PV) (l8 : List PV) (i9 : Int) : W n_means_Rows_2 false [(AV.own 0 0), (AV.pv (PV.imm 3 (PV.agg [(PV.int .i64 i0), (PV.slice 3 l1)]) 0))] [(Ob.var false 0 (AV.fnv n_means_Rows_1 [] [(AV.pv (PV.imm 2 (PV.agg [(PV.slice 3 l2)]) 0)), (AV.pv (PV.imm 2 (PV.agg [(PV.slice 0 l3)]) 0)), (AV.pv (PV.imm 7 (PV.agg [(PV.slice 0 l4), (PV.slice 6 l5), (PV.int .i64 i6), (PV.slice 0 l7), (PV.slice 0 l8), (PV.int .i64 i9)]) 0)), (AV.own 0 0)]))] =
  (((W n_means_Rows_1 false [(AV.pv (PV.agg [(PV.int .i64 i0), (PV.slice 3 l1)])), (AV.pv (PV.imm 2 (PV.agg [(PV.slice 3 l2)]) 0)), (AV.pv (PV.imm 2 (PV.agg [(PV.slice 0 l3)]) 0)), (AV.pv (PV.imm 7 (PV.agg [(PV.slice 0 l4), (PV.slice 6 l5), (PV.int .i64 i6), (PV.slice 0 l7), (PV.slice 0 l8), (PV.int .i64 i9)]) 0)), (AV.own 0 0)] [(Ob.var false 0 (AV.fnv n_means_Rows_1 [] [(AV.pv (PV.imm 2 (PV.agg [(PV.slice 3 l2)]) 0)), (AV.pv (PV.imm 2 (PV.agg [(PV.slice 0 l3)]) 0)), (AV.pv (PV.imm 7 (PV.agg [(PV.slice 0 l4), (PV.slice 6 l5), (PV.int .i64 i6), (PV.slice 0 l7), (PV.slice 0 l8), (PV.int .i64 i9)]) 0)), (AV.own 0 0)]))])).bind (fun v19 => (k_abad21 v19 (fun v20 v21 v22 v23 v24 v25 v26 v27 v28 => (c_g_s0_s0 v20 (fun v29 v30 => (some ((AV.pv (PV.agg [(PV.slice 0 v29), (PV.slice 0 v30)])), [(Ob.var false 0 (AV.fnv n_means_Rows_1 [] [(AV.pv (PV.imm 2 (PV.agg [(PV.slice 3 v21)]) 0)), (AV.pv (PV.imm 2 (PV.agg [(PV.slice 0 v22)]) 0)), (AV.pv (PV.imm 7 (PV.agg [(PV.slice 0 v23), (PV.slice 6 v24), (PV.int .i64 v25), (PV.slice 0 v26), (PV.slice 0 v27), (PV.int .i64 v28)]) 0)), (AV.own 0 0)]))])))))))) := goO (by kernel_rfl) (by kernel_rfl) T81o1 rfl (by kernel_rfl)
noncomputable def jF82 : Jn PV := (Classical.choose (exT fi82 (fin cfg fi82))).1
noncomputable def lF82 : Ln PV := (Classical.choose (exT fi82 (fin cfg fi82))).2
theorem T82 : Tied cfg W fi82 (fin cfg fi82) jF82 lF82 := Classical.choose_spec (exT fi82 (fin cfg fi82))
theorem e_query_set_has (a0 : Int) (a1 : Int) : wc W n_query_set_has [(PV.int .i64 a0), (PV.int .i64 a1)] =
  (((bif (decide (a1 < (0 : Int))) then none else (some (PV.int .i64 (Int.fdiv a0 (HPow.hPow (2 : Int) (Min.min (Int.toNat a1) 64))))))).bind (fun v1 => (c_i64 v1 (fun v2 => (some (PV.bool ((IntKind.wrap .i64 (((BitVec.toNat (HAnd.hAnd (BitVec.ofInt 64 v2) (BitVec.ofInt 64 (1 : Int)))) : Nat) : Int)) == (1 : Int)))))))) := go (by kernel_rfl) (by kernel_rfl) T82 (by kernel_rfl)
noncomputable def jF83 : Jn PV := (Classical.choose (exT fi83 (fin cfg fi83))).1
noncomputable def lF83 : Ln PV := (Classical.choose (exT fi83 (fin cfg fi83))).2
theorem T83 : Tied cfg W fi83 (fin cfg fi83) jF83 lF83 := Classical.choose_spec (exT fi83 (fin cfg fi83))
noncomputable def J_tree_set_1 (i1 : Int) (i2 : Int) (l3 : List PV) (b4 : Bool) : Option PV := jF83 [1, 0, 0, 1] (St.mk [(1, (AV.pv (PV.int .i64 i1))), (2, (AV.pv (PV.imm 3 (PV.agg [(PV.int .i64 i2), (PV.slice 3 l3)]) 0))), (11, (AV.pv (PV.bool b4)))] [])
noncomputable def J_tree_set_2 (i5 : Int) (l6 : List PV) (b7 : Bool) : Option PV := jF83 [1, 0, 1, 1, 1, 0, 0, 1] (St.mk [(2, (AV.pv (PV.imm 3 (PV.agg [(PV.int .i64 i5), (PV.slice 3 l6)]) 0))), (6, (AV.pv (PV.bool b7)))] [])
theorem J_tree_set_1_eq (i1 : Int) (i2 : Int) (l3 : List PV) (b4 : Bool) : J_tree_set_1 i1 i2 l3 b4 =
  (bif b4 then (some (PV.tup [(PV.int .i64 (0 : Int)), (PV.bool false)])) else (bif ((((List.length l3) : Nat) : Int) == (0 : Int)) then (bif (decide (GE.ge i2 (0 : Int))) then (J_tree_set_2 i2 l3 (decide (i2 < (4 : Int)))) else (J_tree_set_2 i2 l3 false)) else (((l3)[0]?).bind (fun v8 => (c_g_i64_s3 v8 (fun v9 v10 => (((wc W n_tree_set [(PV.agg [(PV.int .i64 v9), (PV.slice 3 v10)]), (PV.int .i64 (IntKind.wrap .i64 (i1 - (1 : Int) : Int)))])).bind (fun v11 => (((PV.asTup v11)).bind (fun v12 => (((v12)[0]?).bind (fun v13 => (c_i64 v13 (fun v14 => (((PV.asTup v11)).bind (fun v15 => (((v15)[1]?).bind (fun v16 => (c_b v16 (fun v17 => (((l3)[1]?).bind (fun v18 => (c_g_i64_s3 v18 (fun v19 v20 => (((wc W n_tree_set [(PV.agg [(PV.int .i64 v19), (PV.slice 3 v20)]), (PV.int .i64 (IntKind.wrap .i64 (i1 - (1 : Int) : Int)))])).bind (fun v21 => (((PV.asTup v21)).bind (fun v22 => (((v22)[0]?).bind (fun v23 => (c_i64 v23 (fun v24 => (((PV.asTup v21)).bind (fun v25 => (((v25)[1]?).bind (fun v26 => (c_b v26 (fun v27 => (bif v17 then (bif v27 then (some (PV.tup [(PV.int .i64 (IntKind.wrap .i64 (((BitVec.toNat (HOr.hOr (BitVec.ofInt 64 v14) (BitVec.ofInt 64 v24))) : Nat) : Int))), (PV.bool ((IntKind.wrap .i64 (((BitVec.toNat (HAnd.hAnd (BitVec.ofInt 64 v14) (BitVec.ofInt 64 v24))) : Nat) : Int)) == (0 : Int)))])) else (some (PV.tup [(PV.int .i64 (IntKind.wrap .i64 (((BitVec.toNat (HOr.hOr (BitVec.ofInt 64 v14) (BitVec.ofInt 64 v24))) : Nat) : Int))), (PV.bool false)]))) else (some (PV.tup [(PV.int .i64 (IntKind.wrap .i64 (((BitVec.toNat (HOr.hOr (BitVec.ofInt 64 v14) (BitVec.ofInt 64 v24))) : Nat) : Int))), (PV.bool false)]))))))))))))))))))))))))))))))))))))))))) := (T83.join [1, 0, 0, 1] _).trans (by kernel_rfl)
theorem J_tree_set_2_eq (i5 : Int) (l6 : List PV) (b7 : Bool) : J_tree_set_2 i5 l6 b7 =
  (((bif (decide ((bif (decide ((Int.tmod i5 (4 : Int)) < (0 : Int))) then (0 : Int) else (Int.tmod i5 (4 : Int))) < (0 : Int))) then none else (some (PV.int .i64 (IntKind.wrap .i64 ((1 : Int) * (HPow.hPow (2 : Int) (Min.min (Int.toNat (bif (decide ((Int.tmod i5 (4 : Int)) < (0 : Int))) then (0 : Int) else (Int.tmod i5 (4 : Int)))) 64)) : Int)))))).bind (fun v28 => (c_i64 v28 (fun v29 => (some (PV.tup [(PV.int .i64 v29), (PV.bool b7)])))))) := (T83.join [1, 0, 0, 1, 1, 1, 0, 1] _).trans (by kernel_rfl)
theorem e_tree_set (a0_0 : Int) (a0_1 : List PV) (a1 : Int) : wc W n_tree_set [(PV.agg [(PV.int .i64 a0_0), (PV.slice 3 a0_1)]), (PV.int .i64 a1)] =
  (bif (a1 == (0 : Int)) then (J_tree_set_1 a1 a0_0 a0_1 (a1 == (0 : Int))) else (bif ((((List.length a0_1) : Nat) : Int) != (0 : Int)) then (bif ((((List.length a0_1) : Nat) : Int) != (2 : Int)) then (J_tree_set_1 a1 a0_0 a0_1 ((((List.length a0_1) : Nat) : Int) != (2 : Int))) else (bif ((((List.length a0_1) : Nat) : Int) == (2 : Int)) then (J_tree_set_1 a1 a0_0 a0_1 (a0_0 != (0 : Int))) else (J_tree_set_1 a1 a0_0 a0_1 false))) else (bif ((((List.length a0_1) : Nat) : Int) == (2 : Int)) then (J_tree_set_1 a1 a0_0 a0_1 (a0_0 != (0 : Int))) else (J_tree_set_1 a1 a0_0 a0_1 false)))) := go (by kernel_rfl) (by kernel_rfl) T83 (by kernel_rfl)
noncomputable def jF93 : Jn PV := (Classical.choose (exT fi93 (fin cfg fi93))).1
noncomputable def lF93 : Ln PV := (Classical.choose (exT fi93 (fin cfg fi93))).2
theorem T93 : Tied cfg W fi93 (fin cfg fi93) jF93 lF93 := Classical.choose_spec (exT fi93 (fin cfg fi93))
noncomputable def L_roadbookref02_Ints_1 (l1 : List PV) (l2 : List PV) (i3 : Int) : Option PV := lF93 [0, 1, 0, 1, 1] 0 (St.mk [(0, (AV.pv (PV.slice 0 l1))), (1, (AV.pv (PV.slice 0 l2))), (5, (AV.pv (PV.int .i64 i3)))] [])
theorem L_roadbookref02_Ints_1_eq (l1 : List PV) (l2 : List PV) (i3 : Int) : L_roadbookref02_Ints_1 l1 l2 i3 =
  (bif (decide (i3 < (((List.length l1) : Nat) : Int))) then (bif (decide ((0 : Int) ≤ i3)) then (((l1)[(Int.toNat i3)]?).bind (fun v4 => (c_i64 v4 (fun v5 => (bif (decide ((0 : Int) ≤ i3)) then (((l2)[(Int.toNat i3)]?).bind (fun v6 => (c_i64 v6 (fun v7 => (bif (v5 != v7) then (some (PV.bool false)) else (L_roadbookref02_Ints_1 l1 l2 (IntKind.wrap .i64 (i3 + (1 : Int) : Int)))))))) else none))))) else none) else (some (PV.bool true))) := (T93.loop [1, 1, 0, 1, 0] 0 _ rfl).trans (by kernel_rfl)
theorem e_roadbookref02_Ints (a0 : List PV) (a1 : List PV) : wc W n_roadbookref02_Ints [(PV.slice 0 a0), (PV.slice 0 a1)] =
  (bif ((((List.length a0) : Nat) : Int) != (((List.length a1) : Nat) : Int)) then (some (PV.bool false)) else (L_roadbookref02_Ints_1 a0 a1 (0 : Int))) := go (by kernel_rfl) (by kernel_rfl) T93 (by kernel_rfl)
noncomputable def jF97 : Jn PV := (Classical.choose (exT fi97 (fin cfg fi97))).1
noncomputable def lF97 : Ln PV := (Classical.choose (exT fi97 (fin cfg fi97))).2
theorem T97 : Tied cfg W fi97 (fin cfg fi97) jF97 lF97 := Classical.choose_spec (exT fi97 (fin cfg fi97))
noncomputable def L_query_some_1 (p1 : PV) (l2 : List PV) (i3 : Int) (i4 : Int) (l5 : List PV) : Option PV := lF97 [0, 1, 0, 1, 1] 1 (St.mk [(1, (AV.pv p1)), (5, (AV.view 0 0 none)), (9, (AV.pv (PV.slice 6 l2))), (10, (AV.pv (PV.int .i64 i3))), (11, (AV.pv (PV.int .i64 i4)))] [(Ob.row false 0 0 l5)])
theorem L_query_some_1_eq (p1 : PV) (l2 : List PV) (i3 : Int) (i4 : Int) (l5 : List PV) : L_query_some_1 p1 l2 i3 i4 l5 =
  (bif (decide (i4 < i3)) then (bif (decide ((0 : Int) ≤ i4)) then (((l2)[(Int.toNat i4)]?).bind (fun v6 => (c_g_i64_i64_i64_i64_s6 v6 (fun v7 v8 v9 v10 v11 => (((wc W n_query_Of [(PV.agg [(PV.int .i64 v7), (PV.int .i64 v8), (PV.int .i64 v9), (PV.int .i64 v10), (PV.slice 6 v11)])])).bind (fun v12 => (c_i64 v12 (fun v13 => (((PV.asFn p1)).bind (fun v14 => (((wc W (Prod.fst v14) (((Prod.fst (Prod.snd v14)) ++ [(PV.int .i64 v13)]) ++ (Prod.snd (Prod.snd v14))))).bind (fun v15 => (c_b v15 (fun v16 => (bif v16 then (bif (true && (decide (((List.length l5) + 1 : Nat) ≤ 4294967296))) then (L_query_some_1 p1 l2 i3 (IntKind.wrap .i64 (i4 + (1 : Int) : Int)) (l5 ++ [(PV.int .i64 i4)])) else none) else (L_query_some_1 p1 l2 i3 (IntKind.wrap .i64 (i4 + (1 : Int) : Int)) l5)))))))))))))))) else none) else (some (PV.slice 0 l5))) := (T97.loop [1, 1, 0, 1, 0] 1 _ rfl).trans (by kernel_rfl)
theorem e_query_some (a0_0 : List PV) (a0_1 : List PV) (a0_2 : Int) (a0_3 : List PV) (a0_4 : List PV) (a0_5 : Int) (a1 : PV) : wc W n_query_some [(PV.agg [(PV.slice 0 a0_0), (PV.slice 6 a0_1), (PV.int .i64 a0_2), (PV.slice 0 a0_3), (PV.slice 0 a0_4), (PV.int .i64 a0_5)]), a1] =
  (L_query_some_1 a1 a0_1 (((List.length a0_1) : Nat) : Int) (0 : Int) []) := go (by kernel_rfl) (by kernel_rfl) T97 (by kernel_rfl)
noncomputable def jF97o3 : Jn (AV × List Ob) := (Classical.choose (exT fi97 (finO cfg fi97 false 3))).1
noncomputable def lF97o3 : Ln (AV × List Ob) := (Classical.choose (exT fi97 (finO cfg fi97 false 3))).2
theorem T97o3 : Tied cfg W fi97 (finO cfg fi97 false 3) jF97o3 lF97o3 := Classical.choose_spec (exT fi97 (finO cfg fi97 false 3))
noncomputable def L_query_some_o3_1 (l1 : List PV) (i2 : Int) (i3 : Int) (i4 : Int) (i5 : Int) (i6 : Int) (l7 : List PV) : Option (AV × List Ob) := lF97o3 [0, 1, 0, 1, 1] 4 (St.mk [(1, (AV.fnv n_query_New_1 [] [(AV.own 0 0), (AV.own 1 0), (AV.own 2 0)])), (5, (AV.view 3 0 none)), (9, (AV.pv (PV.slice 6 l1))), (10, (AV.pv (PV.int .i64 i2))), (11, (AV.pv (PV.int .i64 i3)))] [(Ob.var false 0 (AV.pv (PV.int .i64 i4))), (Ob.var false 0 (AV.pv (PV.int .i64 i5))), (Ob.var false 0 (AV.pv (PV.int .i64 i6))), (Ob.row false 0 0 l7)])
theorem L_query_some_o3_1_eq (l1 : List PV) (i2 : Int) (i3 : Int) (i4 : Int) (i5 : Int) (i6 : Int) (l7 : List PV) : L_query_some_o3_1 l1 i2 i3 i4 i5 i6 l7 =
  (bif (decide (i3 < i2)) then (bif (decide ((0 : Int) ≤ i3)) then (((l1)[(Int.toNat i3)]?).bind (fun v8 => (c_g_i64_i64_i64_i64_s6 v8 (fun v9 v10 v11 v12 v13 => (((wc W n_query_Of [(PV.agg [(PV.int .i64 v9), (PV.int .i64 v10), (PV.int .i64 v11), (PV.int .i64 v12), (PV.slice 6 v13)])])).bind (fun v14 => (c_i64 v14 (fun v15 => (((W n_query_New_1 false [(AV.pv (PV.int .i64 v15)), (AV.own 0 0), (AV.own 1 0), (AV.own 2 0)] [(Ob.var false 0 (AV.pv (PV.int .i64 i4))), (Ob.var false 0 (AV.pv (PV.int .i64 i5))), (Ob.var false 0 (AV.pv (PV.int .i64 i6)))])).bind (fun v20 => (k_10961c v20 (fun v21 v22 v23 v24 => (c_b v21 (fun v25 => (bif v25 then (bif (true && (decide (((List.length l7) + 1 : Nat) ≤ 4294967296))) then (L_query_some_o3_1 l1 i2 (IntKind.wrap .i64 (i3 + (1 : Int) : Int)) v22 v23 v24 (l7 ++ [(PV.int .i64 i3)])) else none) else (L_query_some_o3_1 l1 i2 (IntKind.wrap .i64 (i3 + (1 : Int) : Int)) v22 v23 v24 l7)))))))))))))))) else none) else (some ((AV.pv (PV.slice 0 l7)), [(Ob.var false 0 (AV.pv (PV.int .i64 i4))), (Ob.var false 0 (AV.pv (PV.int .i64 i5))), (Ob.var false 0 (AV.pv (PV.int .i64 i6)))]))) := (T97o3.loop [1, 1, 0, 1, 0] 4 _ rfl).trans (by kernel_rfl)
theorem o_query_some_o3_1 (l0 : List PV) (l1 : List PV) (i2 : Int) (l3 : List PV) (l4 : List PV) (i5 : Int) (i6 : Int) (i7 : Int) (i8 : Int) : W n_query_some false [(AV.pv (PV.agg [(PV.slice 0 l0), (PV.slice 6 l1), (PV.int .i64 i2), (PV.slice 0 l3), (PV.slice 0 l4), (PV.int .i64 i5)])), (AV.fnv n_query_New_1 [] [(AV.own 0 0), (AV.own 1 0), (AV.own 2 0)])] [(Ob.var false 0 (AV.pv (PV.int .i64 i6))), (Ob.var false 0 (AV.pv (PV.int .i64 i7))), (Ob.var false 0 (AV.pv (PV.int .i64 i8)))] =
  (L_query_some_o3_1 l1 (((List.length l1) : Nat) : Int) (0 : Int) i6 i7 i8 []) := goO (by kernel_rfl) (by kernel_rfl) T97o3 rfl (by kernel_rfl)
noncomputable def jF98 : Jn PV := (Classical.choose (exT fi98 (fin cfg fi98))).1
noncomputable def lF98 : Ln PV := (Classical.choose (exT fi98 (fin cfg fi98))).2
theorem T98 : Tied cfg W fi98 (fin cfg fi98) jF98 lF98 := Classical.choose_spec (exT fi98 (fin cfg fi98))
theorem e_query_set_holds (a0 : Int) (a1 : Int) : wc W n_query_set_holds [(PV.int .i64 a0), (PV.int .i64 a1)] =
  (some (PV.bool ((IntKind.wrap .i64 (((BitVec.toNat (HAnd.hAnd (BitVec.ofInt 64 a0) (BitVec.ofInt 64 a1))) : Nat) : Int)) == a1))) := go (by kernel_rfl) (by kernel_rfl) T98 (by kernel_rfl)
noncomputable def jF99 : Jn PV := (Classical.choose (exT fi99 (fin cfg fi99))).1
noncomputable def lF99 : Ln PV := (Classical.choose (exT fi99 (fin cfg fi99))).2
theorem T99 : Tied cfg W fi99 (fin cfg fi99) jF99 lF99 := Classical.choose_spec (exT fi99 (fin cfg fi99))
theorem e_bag_May_1 (a0_0 : Int) (a0_1 : Int) : wc W n_bag_May_1 [(PV.agg [(PV.int .i64 a0_0), (PV.int .i64 a0_1)])] =
  (((wc W n_val_May [(PV.agg [(PV.int .i64 a0_0), (PV.int .i64 a0_1)])])).bind (fun v1 => (c_b v1 (fun v2 => (some (PV.bool (!v2))))))) := go (by kernel_rfl) (by kernel_rfl) T99 (by kernel_rfl)
noncomputable def jF100 : Jn PV := (Classical.choose (exT fi100 (fin cfg fi100))).1
noncomputable def lF100 : Ln PV := (Classical.choose (exT fi100 (fin cfg fi100))).2
theorem T100 : Tied cfg W fi100 (fin cfg fi100) jF100 lF100 := Classical.choose_spec (exT fi100 (fin cfg fi100))
theorem e_val_May (a0_0 : Int) (a0_1 : Int) : wc W n_val_May [(PV.agg [(PV.int .i64 a0_0), (PV.int .i64 a0_1)])] =
  (bif (decide (GE.ge a0_0 (0 : Int))) then (bif (decide (a0_0 < (3 : Int))) then (bif (a0_0 == (0 : Int)) then (some (PV.bool true)) else (some (PV.bool (a0_1 == (0 : Int))))) else (some (PV.bool false))) else (some (PV.bool false))) := go (by kernel_rfl) (by kernel_rfl) T100 (by kernel_rfl)
noncomputable def jF101 : Jn PV := (Classical.choose (exT fi101 (fin cfg fi101))).1
noncomputable def lF101 : Ln PV := (Classical.choose (exT fi101 (fin cfg fi101))).2
theorem T101 : Tied cfg W fi101 (fin cfg fi101) jF101 lF101 := Classical.choose_spec (exT fi101 (fin cfg fi101))
theorem e_slices_ContainsFunc_api_Val_api_Val_c5fc (a0 : List PV) (a1 : PV) : wc W n_slices_ContainsFunc_api_Val_api_Val_c5fc [(PV.slice 3 a0), a1] =
  (((wc W n_slices_IndexFunc_api_Val_api_Val_b1f6 [(PV.slice 3 a0), a1])).bind (fun v1 => (c_i64 v1 (fun v2 => (some (PV.bool (decide (GE.ge v2 (0 : Int))))))))) := go (by kernel_rfl) (by kernel_rfl) T101 (by kernel_rfl)
noncomputable def jF102 : Jn PV := (Classical.choose (exT fi102 (fin cfg fi102))).1
noncomputable def lF102 : Ln PV := (Classical.choose (exT fi102 (fin cfg fi102))).2
theorem T102 : Tied cfg W fi102 (fin cfg fi102) jF102 lF102 := Classical.choose_spec (exT fi102 (fin cfg fi102))
noncomputable def L_bag_some_1 (p3 : PV) (l4 : List PV) (i5 : Int) (i6 : Int) (l7 : List PV) (l8 : List PV) (l9 : List PV) (l10 : List PV) : Option PV := lF102 [0, 1, 0, 1, 1] 5 (St.mk [(1, (AV.pv p3)), (4, (AV.own 0 0)), (5, (AV.own 3 0)), (13, (AV.pv (PV.slice 0 l4))), (14, (AV.pv (PV.int .i64 i5))), (15, (AV.pv (PV.int .i64 i6)))] [(Ob.var false 3 (AV.agg [(AV.nil 0), (AV.nil 0)])), (Ob.row false 0 0 l7), (Ob.row false 0 0 l8), (Ob.var false 3 (AV.agg [(AV.pv (PV.slice 0 l9)), (AV.view 4 0 none)])), (Ob.row false 0 0 l10)])
theorem L_bag_some_1_eq (p3 : PV) (l4 : List PV) (i5 : Int) (i6 : Int) (l7 : List PV) (l8 : List PV) (l9 : List PV) (l10 : List PV) : L_bag_some_1 p3 l4 i5 i6 l7 l8 l9 l10 =
  (bif (decide (i6 < i5)) then (bif (decide ((0 : Int) ≤ i6)) then (((l4)[(Int.toNat i6)]?).bind (fun v11 => (c_s3 v11 (fun v12 => (((PV.asFn p3)).bind (fun v13 => (((wc W (Prod.fst v13) (((Prod.fst (Prod.snd v13)) ++ [(PV.slice 3 v12)]) ++ (Prod.snd (Prod.snd v13))))).bind (fun v14 => (c_b v14 (fun v15 => (bif v15 then (((wc W n_slices_Clone_api_Val_api_Val [(PV.slice 3 v12)])).bind (fun v16 => (c_s3 v16 (fun v17 => (bif (true && (decide (((List.length l10) + 1 : Nat) ≤ 4294967296))) then (L_bag_some_1 p3 l4 i5 (IntKind.wrap .i64 (i6 + (1 : Int) : Int)) l7 l8 l9 (l10 ++ [(PV.slice 3 v17)])) else none))))) else (L_bag_some_1 p3 l4 i5 (IntKind.wrap .i64 (i6 + (1 : Int) : Int)) l7 l8 l9 l10)))))))))))) else none) else (some (PV.agg [(PV.slice 0 l9), (PV.slice 0 l10)]))) := (T102.loop [1, 1, 0, 1, 0] 5 _ rfl).trans (by kernel_rfl)
theorem e_bag_some (a0_0 : List PV) (a0_1 : List PV) (a1 : PV) : wc W n_bag_some [(PV.agg [(PV.slice 0 a0_0), (PV.slice 0 a0_1)]), a1] =
  (((wc W n_slices_Clone_int_int [(PV.slice 0 a0_0)])).bind (fun v1 => (c_s0 v1 (fun v2 => (L_bag_some_1 a1 a0_1 (((List.length a0_1) : Nat) : Int) (0 : Int) [] [] v2 []))))) := go (by kernel_rfl) (by kernel_rfl) T102 (by kernel_rfl)
noncomputable def jF103 : Jn PV := (Classical.choose (exT fi103 (fin cfg fi103))).1
noncomputable def lF103 : Ln PV := (Classical.choose (exT fi103 (fin cfg fi103))).2
theorem T103 : Tied cfg W fi103 (fin cfg fi103) jF103 lF103 := Classical.choose_spec (exT fi103 (fin cfg fi103))
theorem e_bag_Keep_1 (a0 : List PV) (c0 : List PV) (c1_0 : List PV) (c1_1 : List PV) : wc W n_bag_Keep_1 [(PV.slice 3 a0), (PV.imm 0 (PV.slice 6 c0) 0), (PV.imm 3 (PV.agg [(PV.slice 0 c1_0), (PV.slice 0 c1_1)]) 0)] =
  (((wc W n_slices_ContainsFunc_api_Expr_api_Expr [(PV.slice 6 c0), (PV.fn n_bag_Keep_1_1 [] [(PV.imm 3 (PV.agg [(PV.slice 0 c1_0), (PV.slice 0 c1_1)]) 0), (PV.imm 0 (PV.slice 3 a0) 0)])])).bind (fun v1 => (c_b v1 (fun v2 => (some (PV.bool (!v2))))))) := go (by kernel_rfl) (by kernel_rfl) T103 (by kernel_rfl)
noncomputable def jF104 : Jn PV := (Classical.choose (exT fi104 (fin cfg fi104))).1
noncomputable def lF104 : Ln PV := (Classical.choose (exT fi104 (fin cfg fi104))).2
theorem T104 : Tied cfg W fi104 (fin cfg fi104) jF104 lF104 := Classical.choose_spec (exT fi104 (fin cfg fi104))
theorem e_slices_ContainsFunc_api_Expr_api_Expr (a0 : List PV) (a1 : PV) : wc W n_slices_ContainsFunc_api_Expr_api_Expr [(PV.slice 6 a0), a1] =
  (((wc W n_slices_IndexFunc_api_Expr_api_Expr [(PV.slice 6 a0), a1])).bind (fun v1 => (c_i64 v1 (fun v2 => (some (PV.bool (decide (GE.ge v2 (0 : Int))))))))) := go (by kernel_rfl) (by kernel_rfl) T104 (by kernel_rfl)
noncomputable def jF105 : Jn PV := (Classical.choose (exT fi105 (fin cfg fi105))).1
noncomputable def lF105 : Ln PV := (Classical.choose (exT fi105 (fin cfg fi105))).2
theorem T105 : Tied cfg W fi105 (fin cfg fi105) jF105 lF105 := Classical.choose_spec (exT fi105 (fin cfg fi105))
theorem e_bag_Keep_1_1 (a0_0 : Int) (a0_1 : Int) (a0_2 : Int) (a0_3 : Int) (a0_4 : List PV) (c0_0 : List PV) (c0_1 : List PV) (c1 : List PV) : wc W n_bag_Keep_1_1 [(PV.agg [(PV.int .i64 a0_0), (PV.int .i64 a0_1), (PV.int .i64 a0_2), (PV.int .i64 a0_3), (PV.slice 6 a0_4)]), (PV.imm 3 (PV.agg [(PV.slice 0 c0_0), (PV.slice 0 c0_1)]) 0), (PV.imm 0 (PV.slice 3 c1) 0)] =
  (((wc W n_expr_Keeps [(PV.agg [(PV.int .i64 a0_0), (PV.int .i64 a0_1), (PV.int .i64 a0_2), (PV.int .i64 a0_3), (PV.slice 6 a0_4)]), (PV.slice 0 c0_0), (PV.slice 3 c1)])).bind (fun v1 => (c_b v1 (fun v2 => (some (PV.bool (!v2))))))) := go (by kernel_rfl) (by kernel_rfl) T105 (by kernel_rfl)
noncomputable def jF106 : Jn PV := (Classical.choose (exT fi106 (fin cfg fi106))).1
noncomputable def lF106 : Ln PV := (Classical.choose (exT fi106 (fin cfg fi106))).2
theorem T106 : Tied cfg W fi106 (fin cfg fi106) jF106 lF106 := Classical.choose_spec (exT fi106 (fin cfg fi106))
theorem e_expr_Keeps (a0_0 : Int) (a0_1 : Int) (a0_2 : Int) (a0_3 : Int) (a0_4 : List PV) (a1 : List PV) (a2 : List PV) : wc W n_expr_Keeps [(PV.agg [(PV.int .i64 a0_0), (PV.int .i64 a0_1), (PV.int .i64 a0_2), (PV.int .i64 a0_3), (PV.slice 6 a0_4)]), (PV.slice 0 a1), (PV.slice 3 a2)] =
  (((wc W n_expr_Eval [(PV.agg [(PV.int .i64 a0_0), (PV.int .i64 a0_1), (PV.int .i64 a0_2), (PV.int .i64 a0_3), (PV.slice 6 a0_4)]), (PV.slice 0 a1), (PV.slice 3 a2)])).bind (fun v1 => (c_g_i64_i64 v1 (fun v2 v3 => (((wc W n_val_True [(PV.agg [(PV.int .i64 v2), (PV.int .i64 v3)])])).bind (fun v4 => (c_b v4 (fun v5 => (some (PV.bool v5)))))))))) := go (by kernel_rfl) (by kernel_rfl) T106 (by kernel_rfl)
noncomputable def jF113o1 : Jn (AV × List Ob) := (Classical.choose (exT fi113 (finO cfg fi113 false 1))).1
noncomputable def lF113o1 : Ln (AV × List Ob) := (Classical.choose (exT fi113 (finO cfg fi113 false 1))).2
theorem T113o1 : Tied cfg W fi113 (finO cfg fi113 false 1) jF113o1 lF113o1 := Classical.choose_spec (exT fi113 (finO cfg fi113 false 1))
theorem o_data_Fits_1_o1_1 (l0 : List PV) (l1 : List PV) (i2 : Int) : W n_data_Fits_1 false [(AV.pv (PV.slice 3 l0)), (AV.pv (PV.imm 2 (PV.agg [(PV.slice 3 l1)]) 0)), (AV.own 0 0)] [(Ob.var false 0 (AV.pv (PV.int .i64 i2)))] =
  (bif (decide ((0 : Int) ≤ i2)) then (((l1)[(Int.toNat i2)]?).bind (fun v1 => (((PV.load 3 v1 0 0)).bind (fun v2 => (c_i64 v2 (fun v3 => (((wc W n_data_row [(PV.slice 3 l0), (PV.int .i64 v3)])).bind (fun v4 => (c_b v4 (fun v5 => (some ((AV.pv (PV.bool (!v5))), [(Ob.var false 0 (AV.pv (PV.int .i64 i2)))])))))))))))) else none) := goO (by kernel_rfl) (by kernel_rfl) T113o1 rfl (by kernel_rfl)
noncomputable def jF114 : Jn PV := (Classical.choose (exT fi114 (fin cfg fi114))).1
noncomputable def lF114 : Ln PV := (Classical.choose (exT fi114 (fin cfg fi114))).2
theorem T114 : Tied cfg W fi114 (fin cfg fi114) jF114 lF114 := Classical.choose_spec (exT fi114 (fin cfg fi114))
theorem e_data_row (a0 : List PV) (a1 : Int) : wc W n_data_row [(PV.slice 3 a0), (PV.int .i64 a1)] =
  (bif ((((List.length a0) : Nat) : Int) == a1) then (((wc W n_slices_ContainsFunc_api_Val_api_Val_c5fc [(PV.slice 3 a0), (PV.fn n_data_row_1 [] [])])).bind (fun v1 => (c_b v1 (fun v2 => (some (PV.bool (!v2))))))) else (some (PV.bool false))) := go (by kernel_rfl) (by kernel_rfl) T114 (by kernel_rfl)
noncomputable def jF115o1 : Jn (AV × List Ob) := (Classical.choose (exT fi115 (finO cfg fi115 false 1))).1
noncomputable def lF115o1 : Ln (AV × List Ob) := (Classical.choose (exT fi115 (finO cfg fi115 false 1))).2
theorem T115o1 : Tied cfg W fi115 (finO cfg fi115 false 1) jF115o1 lF115o1 := Classical.choose_spec (exT fi115 (finO cfg fi115 false 1))
theorem o_slices_ContainsFunc_api_Val_api_Val_3020_o1_1 (l0 : List PV) (l1 : List PV) (i2 : Int) : W n_slices_ContainsFunc_api_Val_api_Val_3020 false [(AV.pv (PV.slice 0 l0)), (AV.fnv n_data_Fits_1 [] [(AV.pv (PV.imm 2 (PV.agg [(PV.slice 3 l1)]) 0)), (AV.own 0 0)])] [(Ob.var false 0 (AV.pv (PV.int .i64 i2)))] =
  (((W n_slices_IndexFunc_api_Val_api_Val_fa1b false [(AV.pv (PV.slice 0 l0)), (AV.fnv n_data_Fits_1 [] [(AV.pv (PV.imm 2 (PV.agg [(PV.slice 3 l1)]) 0)), (AV.own 0 0)])] [(Ob.var false 0 (AV.pv (PV.int .i64 i2)))])).bind (fun v4 => (k_5b106d v4 (fun v5 v6 => (c_i64 v5 (fun v7 => (some ((AV.pv (PV.bool (decide (GE.ge v7 (0 : Int))))), [(Ob.var false 0 (AV.pv (PV.int .i64 v6)))])))))))) := goO (by kernel_rfl) (by kernel_rfl) T115o1 rfl (by kernel_rfl)
noncomputable def jF125 : Jn PV := (Classical.choose (exT fi125 (fin cfg fi125))).1
noncomputable def lF125 : Ln PV := (Classical.choose (exT fi125 (fin cfg fi125))).2
theorem T125 : Tied cfg W fi125 (fin cfg fi125) jF125 lF125 := Classical.choose_spec (exT fi125 (fin cfg fi125))
noncomputable def J_roadbooklaw05_few_1 (l1 : List PV) (l2 : List PV) (i3 : Int) (l4 : List PV) (l5 : List PV) (i6 : Int) (b7 : Bool) : Option PV := jF125 [1, 1] (St.mk [(3, (AV.pv (PV.imm 7 (PV.agg [(PV.slice 0 l1), (PV.slice 6 l2), (PV.int .i64 i3), (PV.slice 0 l4), (PV.slice 0 l5), (PV.int .i64 i6)]) 0))), (5, (AV.pv (PV.bool b7)))] [])
noncomputable def L_roadbooklaw05_few_2 (l8 : List PV) (l9 : List PV) (i10 : Int) (l11 : List PV) (l12 : List PV) (i13 : Int) (b14 : Bool) (i15 : Int) : Option PV := lF125 [0, 1, 0, 1, 1] 0 (St.mk [(3, (AV.pv (PV.imm 7 (PV.agg [(PV.slice 0 l8), (PV.slice 6 l9), (PV.int .i64 i10), (PV.slice 0 l11), (PV.slice 0 l12), (PV.int .i64 i13)]) 0))), (5, (AV.pv (PV.bool b14))), (6, (AV.pv (PV.int .i64 i15)))] [])
noncomputable def J_roadbooklaw05_few_3 (l16 : List PV) (l17 : List PV) (i18 : Int) (l19 : List PV) (l20 : List PV) (i21 : Int) (i22 : Int) : Option PV := jF125 [1, 0, 0, 1, 0, 1, 1] (St.mk [(3, (AV.pv (PV.imm 7 (PV.agg [(PV.slice 0 l16), (PV.slice 6 l17), (PV.int .i64 i18), (PV.slice 0 l19), (PV.slice 0 l20), (PV.int .i64 i21)]) 0))), (6, (AV.pv (PV.int .i64 i22)))] [])
theorem J_roadbooklaw05_few_1_eq (l1 : List PV) (l2 : List PV) (i3 : Int) (l4 : List PV) (l5 : List PV) (i6 : Int) (b7 : Bool) : J_roadbooklaw05_few_1 l1 l2 i3 l4 l5 i6 b7 =
  (L_roadbooklaw05_few_2 l1 l2 i3 l4 l5 i6 b7 (0 : Int)) := (T125.join [1, 1] _).trans (by kernel_rfl)
theorem L_roadbooklaw05_few_2_eq (l8 : List PV) (l9 : List PV) (i10 : Int) (l11 : List PV) (l12 : List PV) (i13 : Int) (b14 : Bool) (i15 : Int) : L_roadbooklaw05_few_2 l8 l9 i10 l11 l12 i13 b14 i15 =
  (bif (decide (i15 < (((List.length l9) : Nat) : Int))) then (bif b14 then (J_roadbooklaw05_few_3 l8 l9 i10 l11 l12 i13 i15) else (some (PV.bool b14))) else (some (PV.bool b14))) := (T125.loop [1, 1, 0, 1, 0] 0 _ rfl).trans (by kernel_rfl)
theorem J_roadbooklaw05_few_3_eq (l16 : List PV) (l17 : List PV) (i18 : Int) (l19 : List PV) (l20 : List PV) (i21 : Int) (i22 : Int) : J_roadbooklaw05_few_3 l16 l17 i18 l19 l20 i21 i22 =
  (bif (decide ((0 : Int) ≤ i22)) then (((l17)[(Int.toNat i22)]?).bind (fun v23 => (c_g_i64_i64_i64_i64_s6 v23 (fun v24 v25 v26 v27 v28 => (((wc W n_roadbookref02_Few [(PV.agg [(PV.int .i64 v24), (PV.int .i64 v25), (PV.int .i64 v26), (PV.int .i64 v27), (PV.slice 6 v28)]), (PV.int .i64 (60 : Int))])).bind (fun v29 => (c_b v29 (fun v30 => (L_roadbooklaw05_few_2 l16 l17 i18 l19 l20 i21 v30 (IntKind.wrap .i64 (i22 + (1 : Int) : Int))))))))))) else none) := (T125.join [1, 1, 0, 1, 0, 0, 1] _).trans (by kernel_rfl)
theorem e_roadbooklaw05_few (a0_0 : List PV) (a1_0 : List PV) (a1_1 : List PV) (a1_2 : Int) (a1_3 : List PV) (a1_4 : List PV) (a1_5 : Int) : wc W n_roadbooklaw05_few [(PV.agg [(PV.slice 3 a0_0)]), (PV.agg [(PV.slice 0 a1_0), (PV.slice 6 a1_1), (PV.int .i64 a1_2), (PV.slice 0 a1_3), (PV.slice 0 a1_4), (PV.int .i64 a1_5)])] =
  (bif (decide ((((List.length a0_0) : Nat) : Int) ≤ (10 : Int))) then (bif (decide ((((List.length a1_0) : Nat) : Int) ≤ (20 : Int))) then (bif (decide ((((List.length a1_1) : Nat) : Int) ≤ (8 : Int))) then (bif (decide ((((List.length a1_3) : Nat) : Int) ≤ (20 : Int))) then (J_roadbooklaw05_few_1 a1_0 a1_1 a1_2 a1_3 a1_4 a1_5 (decide ((((List.length a1_4) : Nat) : Int) ≤ (20 : Int)))) else (J_roadbooklaw05_few_1 a1_0 a1_1 a1_2 a1_3 a1_4 a1_5 false)) else (J_roadbooklaw05_few_1 a1_0 a1_1 a1_2 a1_3 a1_4 a1_5 false)) else (J_roadbooklaw05_few_1 a1_0 a1_1 a1_2 a1_3 a1_4 a1_5 false)) else (J_roadbooklaw05_few_1 a1_0 a1_1 a1_2 a1_3 a1_4 a1_5 false)) := go (by kernel_rfl) (by kernel_rfl) T125 (by kernel_rfl)
noncomputable def jF126 : Jn PV := (Classical.choose (exT fi126 (fin cfg fi126))).1
noncomputable def lF126 : Ln PV := (Classical.choose (exT fi126 (fin cfg fi126))).2
theorem T126 : Tied cfg W fi126 (fin cfg fi126) jF126 lF126 := Classical.choose_spec (exT fi126 (fin cfg fi126))
noncomputable def L_roadbooklaw04_few_1 (l1 : List PV) (b2 : Bool) (i3 : Int) : Option PV := lF126 [0, 1, 0, 1, 1] 0 (St.mk [(1, (AV.pv (PV.imm 2 (PV.agg [(PV.slice 0 l1)]) 0))), (3, (AV.pv (PV.bool b2))), (4, (AV.pv (PV.int .i64 i3)))] [])
noncomputable def J_roadbooklaw04_few_2 (l4 : List PV) (i5 : Int) : Option PV := jF126 [1, 0, 0, 1, 0, 1, 1] (St.mk [(1, (AV.pv (PV.imm 2 (PV.agg [(PV.slice 0 l4)]) 0))), (4, (AV.pv (PV.int .i64 i5)))] [])
noncomputable def L_roadbooklaw04_few_3 (l8 : List PV) (b9 : Bool) (i10 : Int) (i11 : Int) : Option PV := lF126 [0, 1, 1, 0, 0, 1, 0, 0, 1, 0, 1, 1] 0 (St.mk [(1, (AV.pv (PV.imm 2 (PV.agg [(PV.slice 0 l8)]) 0))), (3, (AV.pv (PV.bool b9))), (4, (AV.pv (PV.int .i64 i10))), (5, (AV.pv (PV.int .i64 i11)))] [])
noncomputable def J_roadbooklaw04_few_4 (l14 : List PV) (i15 : Int) (i16 : Int) : Option PV := jF126 [1, 0, 0, 1, 1, 0, 0, 1, 0, 0, 1, 0, 1, 1] (St.mk [(1, (AV.pv (PV.imm 2 (PV.agg [(PV.slice 0 l14)]) 0))), (4, (AV.pv (PV.int .i64 i15))), (5, (AV.pv (PV.int .i64 i16)))] [])
theorem L_roadbooklaw04_few_1_eq (l1 : List PV) (b2 : Bool) (i3 : Int) : L_roadbooklaw04_few_1 l1 b2 i3 =
  (bif (decide (i3 < (((List.length l1) : Nat) : Int))) then (bif b2 then (J_roadbooklaw04_few_2 l1 i3) else (some (PV.bool b2))) else (some (PV.bool b2))) := (T126.loop [1, 1, 0, 1, 0] 0 _ rfl).trans (by kernel_rfl)
theorem J_roadbooklaw04_few_2_eq (l4 : List PV) (i5 : Int) : J_roadbooklaw04_few_2 l4 i5 =
  (bif (decide ((0 : Int) ≤ i5)) then (((l4)[(Int.toNat i5)]?).bind (fun v6 => (c_s0 v6 (fun v7 => (L_roadbooklaw04_few_3 l4 (decide ((((List.length v7) : Nat) : Int) ≤ (20 : Int))) i5 (0 : Int)))))) else none) := (T126.join [1, 1, 0, 1, 0, 0, 1] _).trans (by kernel_rfl)
theorem L_roadbooklaw04_few_3_eq (l8 : List PV) (b9 : Bool) (i10 : Int) (i11 : Int) : L_roadbooklaw04_few_3 l8 b9 i10 i11 =
  (bif (decide ((0 : Int) ≤ i10)) then (((l8)[(Int.toNat i10)]?).bind (fun v12 => (c_s0 v12 (fun v13 => (bif (decide (i11 < (((List.length v13) : Nat) : Int))) then (bif b9 then (J_roadbooklaw04_few_4 l8 i10 i11) else (L_roadbooklaw04_few_1 l8 b9 (IntKind.wrap .i64 (i10 + (1 : Int) : Int)))) else (L_roadbooklaw04_few_1 l8 b9 (IntKind.wrap .i64 (i10 + (1 : Int) : Int)))))))) else none) := (T126.loop [1, 1, 0, 1, 0, 0, 1, 0, 0, 1, 1, 0] 0 _ rfl).trans (by kernel_rfl)
theorem J_roadbooklaw04_few_4_eq (l14 : List PV) (i15 : Int) (i16 : Int) : J_roadbooklaw04_few_4 l14 i15 i16 =
  (bif (decide ((0 : Int) ≤ i15)) then (((l14)[(Int.toNat i15)]?).bind (fun v17 => (c_s0 v17 (fun v18 => (bif (decide ((0 : Int) ≤ i16)) then (((v18)[(Int.toNat i16)]?).bind (fun v19 => (c_s3 v19 (fun v20 => (L_roadbooklaw04_few_3 l14 (decide ((((List.length v20) : Nat) : Int) ≤ (20 : Int))) i15 (IntKind.wrap .i64 (i16 + (1 : Int) : Int))))))) else none))))) else none) := (T126.join [1, 1, 0, 1, 0, 0, 1, 0, 0, 1, 1, 0, 0, 1] _).trans (by kernel_rfl)
theorem e_roadbooklaw04_few (a0_0 : List PV) : wc W n_roadbooklaw04_few [(PV.agg [(PV.slice 0 a0_0)])] =
  (L_roadbooklaw04_few_1 a0_0 (decide ((((List.length a0_0) : Nat) : Int) ≤ (10 : Int))) (0 : Int)) := go (by kernel_rfl) (by kernel_rfl) T126 (by kernel_rfl)
noncomputable def jF128 : Jn PV := (Classical.choose (exT fi128 (fin cfg fi128))).1
noncomputable def lF128 : Ln PV := (Classical.choose (exT fi128 (fin cfg fi128))).2
theorem T128 : Tied cfg W fi128 (fin cfg fi128) jF128 lF128 := Classical.choose_spec (exT fi128 (fin cfg fi128))
theorem e_data_in (a0 : Int) (a1 : Int) (a2 : Int) : wc W n_data_in [(PV.int .i64 a0), (PV.int .i64 a1), (PV.int .i64 a2)] =
  (bif (decide (GE.ge a0 a1)) then (some (PV.bool (decide (a0 ≤ a2)))) else (some (PV.bool false))) := go (by kernel_rfl) (by kernel_rfl) T128 (by kernel_rfl)
noncomputable def jF129 : Jn PV := (Classical.choose (exT fi129 (fin cfg fi129))).1
noncomputable def lF129 : Ln PV := (Classical.choose (exT fi129 (fin cfg fi129))).2
theorem T129 : Tied cfg W fi129 (fin cfg fi129) jF129 lF129 := Classical.choose_spec (exT fi129 (fin cfg fi129))
noncomputable def J_data_Col_1 (i5 : Int) (i6 : Int) : Option PV := jF129 [1, 1] (St.mk [(0, (AV.pv (PV.int .i64 i5))), (1, (AV.pv (PV.int .i64 i6)))] [])
theorem J_data_Col_1_eq (i5 : Int) (i6 : Int) : J_data_Col_1 i5 i6 =
  (some (PV.int .i64 (IntKind.wrap .i64 ((IntKind.wrap .i64 ((4 : Int) * i5 : Int)) + i6 : Int)))) := (T129.join [1, 1] _).trans (by kernel_rfl)
theorem e_data_Col (a0 : Int) (a1 : Int) : wc W n_data_Col [(PV.int .i64 a0), (PV.int .i64 a1)] =
  (((wc W n_data_in [(PV.int .i64 a0), (PV.int .i64 (0 : Int)), (PV.int .i64 (3 : Int))])).bind (fun v1 => (c_b v1 (fun v2 => (bif (!v2) then (some (PV.int .i64 (-1 : Int))) else (((wc W n_data_in [(PV.int .i64 a1), (PV.int .i64 (0 : Int)), (PV.int .i64 (3 : Int))])).bind (fun v3 => (c_b v3 (fun v4 => (bif (!v4) then (some (PV.int .i64 (-1 : Int))) else (J_data_Col_1 a0 a1))))))))))) := go (by kernel_rfl) (by kernel_rfl) T129 (by kernel_rfl)
noncomputable def jF130 : Jn PV := (Classical.choose (exT fi130 (fin cfg fi130))).1
noncomputable def lF130 : Ln PV := (Classical.choose (exT fi130 (fin cfg fi130))).2
theorem T130 : Tied cfg W fi130 (fin cfg fi130) jF130 lF130 := Classical.choose_spec (exT fi130 (fin cfg fi130))
noncomputable def L_slices_Concat_int_int_1 (l1 : List PV) (i2 : Int) (l3 : List PV) (i4 : Int) (i5 : Int) : Option PV := lF130 [0, 1, 0, 1, 1] 0 (St.mk [(0, (AV.pv (PV.slice 0 l1))), (3, (AV.pv (PV.int .i64 i2))), (9, (AV.pv (PV.slice 0 l3))), (10, (AV.pv (PV.int .i64 i4))), (11, (AV.pv (PV.int .i64 i5)))] [])
noncomputable def L_slices_Concat_int_int_2 (l11 : List PV) (i12 : Int) (i13 : Int) (l14 : List PV) : Option PV := lF130 [0, 1, 0, 1, 1, 1, 1] 1 (St.mk [(6, (AV.view 0 0 none)), (25, (AV.pv (PV.slice 0 l11))), (26, (AV.pv (PV.int .i64 i12))), (27, (AV.pv (PV.int .i64 i13)))] [(Ob.row false 0 0 l14)])
theorem L_slices_Concat_int_int_1_eq (l1 : List PV) (i2 : Int) (l3 : List PV) (i4 : Int) (i5 : Int) : L_slices_Concat_int_int_1 l1 i2 l3 i4 i5 =
  (bif (decide (i5 < i4)) then (bif (decide ((0 : Int) ≤ i5)) then (((l3)[(Int.toNat i5)]?).bind (fun v6 => (c_s0 v6 (fun v7 => (bif (decide ((IntKind.wrap .i64 (i2 + (((List.length v7) : Nat) : Int) : Int)) < (0 : Int))) then none else (L_slices_Concat_int_int_1 l1 (IntKind.wrap .i64 (i2 + (((List.length v7) : Nat) : Int) : Int)) l3 i4 (IntKind.wrap .i64 (i5 + (1 : Int) : Int)))))))) else none) else (((W n_slices_Grow_int_int true [(AV.nil 0), (AV.pv (PV.int .i64 i2))] [])).bind (fun v9 => (k_d697de v9 (fun v10 => (L_slices_Concat_int_int_2 l1 (((List.length l1) : Nat) : Int) (0 : Int) v10)))))) := (T130.loop [1, 1, 0, 1, 0] 0 _ rfl).trans (by kernel_rfl)
theorem L_slices_Concat_int_int_2_eq (l11 : List PV) (i12 : Int) (i13 : Int) (l14 : List PV) : L_slices_Concat_int_int_2 l11 i12 i13 l14 =
  (bif (decide (i13 < i12)) then (bif (decide ((0 : Int) ≤ i13)) then (((l11)[(Int.toNat i13)]?).bind (fun v15 => (c_s0 v15 (fun v16 => (bif (true && (decide (((List.length l14) + (List.length v16) : Nat) ≤ 4294967296))) then (L_slices_Concat_int_int_2 l11 i12 (IntKind.wrap .i64 (i13 + (1 : Int) : Int)) (l14 ++ v16)) else none))))) else none) else (some (PV.slice 0 l14))) := (T130.loop [1, 1, 1, 1, 0, 1, 0] 1 _ rfl).trans (by kernel_rfl)
theorem e_slices_Concat_int_int (a0 : List PV) : wc W n_slices_Concat_int_int [(PV.slice 0 a0)] =
  (L_slices_Concat_int_int_1 a0 (0 : Int) a0 (((List.length a0) : Nat) : Int) (0 : Int)) := go (by kernel_rfl) (by kernel_rfl) T130 (by kernel_rfl)
noncomputable def jF131 : Jn PV := (Classical.choose (exT fi131 (fin cfg fi131))).1
noncomputable def lF131 : Ln PV := (Classical.choose (exT fi131 (fin cfg fi131))).2
theorem T131 : Tied cfg W fi131 (fin cfg fi131) jF131 lF131 := Classical.choose_spec (exT fi131 (fin cfg fi131))
noncomputable def L_slices_Concat_api_Val_api_Val_1 (l1 : List PV) (i2 : Int) (l3 : List PV) (i4 : Int) (i5 : Int) : Option PV := lF131 [0, 1, 0, 1, 1] 0 (St.mk [(0, (AV.pv (PV.slice 0 l1))), (3, (AV.pv (PV.int .i64 i2))), (9, (AV.pv (PV.slice 0 l3))), (10, (AV.pv (PV.int .i64 i4))), (11, (AV.pv (PV.int .i64 i5)))] [])
noncomputable def L_slices_Concat_api_Val_api_Val_2 (l11 : List PV) (i12 : Int) (i13 : Int) (l14 : List PV) : Option PV := lF131 [0, 1, 0, 1, 1, 1, 1] 1 (St.mk [(6, (AV.view 0 0 none)), (25, (AV.pv (PV.slice 0 l11))), (26, (AV.pv (PV.int .i64 i12))), (27, (AV.pv (PV.int .i64 i13)))] [(Ob.row false 0 3 l14)])
theorem L_slices_Concat_api_Val_api_Val_1_eq (l1 : List PV) (i2 : Int) (l3 : List PV) (i4 : Int) (i5 : Int) : L_slices_Concat_api_Val_api_Val_1 l1 i2 l3 i4 i5 =
  (bif (decide (i5 < i4)) then (bif (decide ((0 : Int) ≤ i5)) then (((l3)[(Int.toNat i5)]?).bind (fun v6 => (c_s3 v6 (fun v7 => (bif (decide ((IntKind.wrap .i64 (i2 + (((List.length v7) : Nat) : Int) : Int)) < (0 : Int))) then none else (L_slices_Concat_api_Val_api_Val_1 l1 (IntKind.wrap .i64 (i2 + (((List.length v7) : Nat) : Int) : Int)) l3 i4 (IntKind.wrap .i64 (i5 + (1 : Int) : Int)))))))) else none) else (((W n_slices_Grow_api_Val_api_Val true [(AV.nil 3), (AV.pv (PV.int .i64 i2))] [])).bind (fun v9 => (k_83ed81 v9 (fun v10 => (L_slices_Concat_api_Val_api_Val_2 l1 (((List.length l1) : Nat) : Int) (0 : Int) v10)))))) := (T131.loop [1, 1, 0, 1, 0] 0 _ rfl).trans (by kernel_rfl)
theorem L_slices_Concat_api_Val_api_Val_2_eq (l11 : List PV) (i12 : Int) (i13 : Int) (l14 : List PV) : L_slices_Concat_api_Val_api_Val_2 l11 i12 i13 l14 =
  (bif (decide (i13 < i12)) then (bif (decide ((0 : Int) ≤ i13)) then (((l11)[(Int.toNat i13)]?).bind (fun v15 => (c_s3 v15 (fun v16 => (bif (true && (decide (((List.length l14) + (List.length v16) : Nat) ≤ 4294967296))) then (L_slices_Concat_api_Val_api_Val_2 l11 i12 (IntKind.wrap .i64 (i13 + (1 : Int) : Int)) (l14 ++ v16)) else none))))) else none) else (some (PV.slice 3 l14))) := (T131.loop [1, 1, 1, 1, 0, 1, 0] 1 _ rfl).trans (by kernel_rfl)
theorem e_slices_Concat_api_Val_api_Val (a0 : List PV) : wc W n_slices_Concat_api_Val_api_Val [(PV.slice 0 a0)] =
  (L_slices_Concat_api_Val_api_Val_1 a0 (0 : Int) a0 (((List.length a0) : Nat) : Int) (0 : Int)) := go (by kernel_rfl) (by kernel_rfl) T131 (by kernel_rfl)
noncomputable def jF132 : Jn PV := (Classical.choose (exT fi132 (fin cfg fi132))).1
noncomputable def lF132 : Ln PV := (Classical.choose (exT fi132 (fin cfg fi132))).2
theorem T132 : Tied cfg W fi132 (fin cfg fi132) jF132 lF132 := Classical.choose_spec (exT fi132 (fin cfg fi132))
theorem e_slices_ContainsFunc_api_Def_api_Def (a0 : List PV) (a1 : PV) : wc W n_slices_ContainsFunc_api_Def_api_Def [(PV.slice 3 a0), a1] =
  (((wc W n_slices_IndexFunc_api_Def_api_Def [(PV.slice 3 a0), a1])).bind (fun v1 => (c_i64 v1 (fun v2 => (some (PV.bool (decide (GE.ge v2 (0 : Int))))))))) := go (by kernel_rfl) (by kernel_rfl) T132 (by kernel_rfl)
noncomputable def jF133 : Jn PV := (Classical.choose (exT fi133 (fin cfg fi133))).1
noncomputable def lF133 : Ln PV := (Classical.choose (exT fi133 (fin cfg fi133))).2
theorem T133 : Tied cfg W fi133 (fin cfg fi133) jF133 lF133 := Classical.choose_spec (exT fi133 (fin cfg fi133))
theorem e_data_May_1 (a0_0 : Int) (a0_1 : Int) : wc W n_data_May_1 [(PV.agg [(PV.int .i64 a0_0), (PV.int .i64 a0_1)])] =
  (((wc W n_data_one [(PV.agg [(PV.int .i64 a0_0), (PV.int .i64 a0_1)])])).bind (fun v1 => (c_b v1 (fun v2 => (some (PV.bool (!v2))))))) := go (by kernel_rfl) (by kernel_rfl) T133 (by kernel_rfl)
noncomputable def jF134 : Jn PV := (Classical.choose (exT fi134 (fin cfg fi134))).1
noncomputable def lF134 : Ln PV := (Classical.choose (exT fi134 (fin cfg fi134))).2
theorem T134 : Tied cfg W fi134 (fin cfg fi134) jF134 lF134 := Classical.choose_spec (exT fi134 (fin cfg fi134))
theorem e_data_one (a0_0 : Int) (a0_1 : Int) : wc W n_data_one [(PV.agg [(PV.int .i64 a0_0), (PV.int .i64 a0_1)])] =
  (((((bif (a0_0 == (0 : Int)) then (bif (a0_1 == (0 : Int)) then (some true) else (some false)) else (some false))).bind (fun v1 => (some (PV.bool (!v1)))))).bind (fun v2 => (c_b v2 (fun v3 => (bif v3 then (((wc W n_data_in [(PV.int .i64 a0_0), (PV.int .i64 (1 : Int)), (PV.int .i64 (4 : Int))])).bind (fun v4 => (c_b v4 (fun v5 => (bif v5 then (((wc W n_data_in [(PV.int .i64 a0_1), (PV.int .i64 (1 : Int)), (PV.int .i64 (1000000 : Int))])).bind (fun v6 => (c_b v6 (fun v7 => (some (PV.bool v7)))))) else (some (PV.bool false))))))) else (some (PV.bool false))))))) := go (by kernel_rfl) (by kernel_rfl) T134 (by kernel_rfl)
noncomputable def jF135 : Jn PV := (Classical.choose (exT fi135 (fin cfg fi135))).1
noncomputable def lF135 : Ln PV := (Classical.choose (exT fi135 (fin cfg fi135))).2
theorem T135 : Tied cfg W fi135 (fin cfg fi135) jF135 lF135 := Classical.choose_spec (exT fi135 (fin cfg fi135))
noncomputable def L_slices_IndexFunc_int_int_1 (l1 : List PV) (p2 : PV) (i3 : Int) (i4 : Int) : Option PV := lF135 [0, 1, 0, 1] 0 (St.mk [(0, (AV.pv (PV.slice 0 l1))), (1, (AV.pv p2)), (7, (AV.pv (PV.int .i64 i3))), (8, (AV.pv (PV.int .i64 i4)))] [])
theorem L_slices_IndexFunc_int_int_1_eq (l1 : List PV) (p2 : PV) (i3 : Int) (i4 : Int) : L_slices_IndexFunc_int_int_1 l1 p2 i3 i4 =
  (bif (decide (i4 < i3)) then (bif (decide ((0 : Int) ≤ i4)) then (((l1)[(Int.toNat i4)]?).bind (fun v5 => (c_i64 v5 (fun v6 => (((PV.asFn p2)).bind (fun v7 => (((wc W (Prod.fst v7) (((Prod.fst (Prod.snd v7)) ++ [(PV.int .i64 v6)]) ++ (Prod.snd (Prod.snd v7))))).bind (fun v8 => (c_b v8 (fun v9 => (bif v9 then (some (PV.int .i64 i4)) else (L_slices_IndexFunc_int_int_1 l1 p2 i3 (IntKind.wrap .i64 (i4 + (1 : Int) : Int)))))))))))))) else none) else (some (PV.int .i64 (-1 : Int)))) := (T135.loop [1, 0, 1, 0] 0 _ rfl).trans (by kernel_rfl)
theorem e_slices_IndexFunc_int_int (a0 : List PV) (a1 : PV) : wc W n_slices_IndexFunc_int_int [(PV.slice 0 a0), a1] =
  (L_slices_IndexFunc_int_int_1 a0 a1 (((List.length a0) : Nat) : Int) (0 : Int)) := go (by kernel_rfl) (by kernel_rfl) T135 (by kernel_rfl)
noncomputable def jF136 : Jn PV := (Classical.choose (exT fi136 (fin cfg fi136))).1
noncomputable def lF136 : Ln PV := (Classical.choose (exT fi136 (fin cfg fi136))).2
theorem T136 : Tied cfg W fi136 (fin cfg fi136) jF136 lF136 := Classical.choose_spec (exT fi136 (fin cfg fi136))
theorem e_expr_May (a0_0 : Int) (a0_1 : Int) (a0_2 : Int) (a0_3 : Int) (a0_4 : List PV) : wc W n_expr_May [(PV.agg [(PV.int .i64 a0_0), (PV.int .i64 a0_1), (PV.int .i64 a0_2), (PV.int .i64 a0_3), (PV.slice 6 a0_4)])] =
  (((W n_expr_each false [(AV.pv (PV.agg [(PV.int .i64 a0_0), (PV.int .i64 a0_1), (PV.int .i64 a0_2), (PV.int .i64 a0_3), (PV.slice 6 a0_4)])), (AV.pv (PV.int .i64 (1 : Int))), (AV.fnv n_expr_May_1 [] [(AV.own 0 0)])] [(Ob.var false 0 (AV.pv (PV.int .i64 (0 : Int))))])).bind (fun v8 => (k_5b106d v8 (fun v9 v10 => (c_b v9 (fun v11 => (some (PV.bool v11)))))))) := go (by kernel_rfl) (by kernel_rfl) T136 (by kernel_rfl)
noncomputable def jF137o1 : Jn (AV × List Ob) := (Classical.choose (exT fi137 (finO cfg fi137 false 1))).1
noncomputable def lF137o1 : Ln (AV × List Ob) := (Classical.choose (exT fi137 (finO cfg fi137 false 1))).2
theorem T137o1 : Tied cfg W fi137 (finO cfg fi137 false 1) jF137o1 lF137o1 := Classical.choose_spec (exT fi137 (finO cfg fi137 false 1))
noncomputable def L_expr_each_o1_1 (i12 : Int) (l13 : List PV) (i14 : Int) (i15 : Int) (i16 : Int) : Option (AV × List Ob) := lF137o1 [0, 1, 0, 1, 1] 1 (St.mk [(1, (AV.pv (PV.int .i64 i12))), (2, (AV.fnv n_expr_May_1 [] [(AV.own 0 0)])), (15, (AV.pv (PV.slice 6 l13))), (16, (AV.pv (PV.int .i64 i14))), (17, (AV.pv (PV.int .i64 i15)))] [(Ob.var false 0 (AV.pv (PV.int .i64 i16)))])
theorem L_expr_each_o1_1_eq (i12 : Int) (l13 : List PV) (i14 : Int) (i15 : Int) (i16 : Int) : L_expr_each_o1_1 i12 l13 i14 i15 i16 =
  (bif (decide (i15 < i14)) then (bif (decide ((0 : Int) ≤ i15)) then (((l13)[(Int.toNat i15)]?).bind (fun v17 => (c_g_i64_i64_i64_i64_s6 v17 (fun v18 v19 v20 v21 v22 => (((W n_expr_each false [(AV.pv (PV.agg [(PV.int .i64 v18), (PV.int .i64 v19), (PV.int .i64 v20), (PV.int .i64 v21), (PV.slice 6 v22)])), (AV.pv (PV.int .i64 (IntKind.wrap .i64 (i12 + (1 : Int) : Int)))), (AV.fnv n_expr_May_1 [] [(AV.own 0 0)])] [(Ob.var false 0 (AV.pv (PV.int .i64 i16)))])).bind (fun v30 => (k_5b106d v30 (fun v31 v32 => (c_b v31 (fun v33 => (bif (!v33) then (some ((AV.pv (PV.bool false)), [(Ob.var false 0 (AV.pv (PV.int .i64 v32)))])) else (L_expr_each_o1_1 i12 l13 i14 (IntKind.wrap .i64 (i15 + (1 : Int) : Int)) v32)))))))))))) else none) else (some ((AV.pv (PV.bool true)), [(Ob.var false 0 (AV.pv (PV.int .i64 i16)))]))) := (T137o1.loop [1, 1, 0, 1, 0] 1 _ rfl).trans (by kernel_rfl)
theorem o_expr_each_o1_1 (i0 : Int) (i1 : Int) (i2 : Int) (i3 : Int) (l4 : List PV) (i5 : Int) (i6 : Int) : W n_expr_each false [(AV.pv (PV.agg [(PV.int .i64 i0), (PV.int .i64 i1), (PV.int .i64 i2), (PV.int .i64 i3), (PV.slice 6 l4)])), (AV.pv (PV.int .i64 i5)), (AV.fnv n_expr_May_1 [] [(AV.own 0 0)])] [(Ob.var false 0 (AV.pv (PV.int .i64 i6)))] =
  (((W n_expr_May_1 false [(AV.pv (PV.agg [(PV.int .i64 i0), (PV.int .i64 i1), (PV.int .i64 i2), (PV.int .i64 i3), (PV.slice 6 l4)])), (AV.pv (PV.int .i64 i5)), (AV.own 0 0)] [(Ob.var false 0 (AV.pv (PV.int .i64 i6)))])).bind (fun v8 => (k_5b106d v8 (fun v9 v10 => (c_b v9 (fun v11 => (bif (!v11) then (some ((AV.pv (PV.bool false)), [(Ob.var false 0 (AV.pv (PV.int .i64 v10)))])) else (L_expr_each_o1_1 i5 l4 (((List.length l4) : Nat) : Int) (0 : Int) v10)))))))) := goO (by kernel_rfl) (by kernel_rfl) T137o1 rfl (by kernel_rfl)
end Go.Cf

namespace Go.Cf
open Go Go.Ab
set_option linter.unusedVariables false
set_option maxRecDepth 100000
noncomputable def jF137o2 : Jn (AV × List Ob) := (Classical.choose (exT fi137 (finO cfg fi137 false 2))).1
noncomputable def lF137o2 : Ln (AV × List Ob) := (Classical.choose (exT fi137 (finO cfg fi137 false 2))).2
theorem T137o2 : Tied cfg W fi137 (finO cfg fi137 false 2) jF137o2 lF137o2 := Classical.choose_spec (exT fi137 (finO cfg fi137 false 2))
noncomputable def L_expr_each_o2_1 (i12 : Int) (l13 : List PV) (i14 : Int) (i15 : Int) (l16 : List PV) : Option (AV × List Ob) := lF137o2 [0, 1, 0, 1, 1] 2 (St.mk [(1, (AV.pv (PV.int .i64 i12))), (2, (AV.fnv n_expr_Cols_1 [] [(AV.own 0 0)])), (15, (AV.pv (PV.slice 6 l13))), (16, (AV.pv (PV.int .i64 i14))), (17, (AV.pv (PV.int .i64 i15)))] [(Ob.var false 0 (AV.view 1 0 none)), (Ob.row false 0 0 l16)])
theorem L_expr_each_o2_1_eq (i12 : Int) (l13 : List PV) (i14 : Int) (i15 : Int) (l16 : List PV) : L_expr_each_o2_1 i12 l13 i14 i15 l16 =
  (bif (decide (i15 < i14)) then (bif (decide ((0 : Int) ≤ i15)) then (((l13)[(Int.toNat i15)]?).bind (fun v17 => (c_g_i64_i64_i64_i64_s6 v17 (fun v18 v19 v20 v21 v22 => (((W n_expr_each false [(AV.pv (PV.agg [(PV.int .i64 v18), (PV.int .i64 v19), (PV.int .i64 v20), (PV.int .i64 v21), (PV.slice 6 v22)])), (AV.pv (PV.int .i64 (IntKind.wrap .i64 (i12 + (1 : Int) : Int)))), (AV.fnv n_expr_Cols_1 [] [(AV.own 0 0)])] [(Ob.var false 0 (AV.view 1 0 none)), (Ob.row false 0 0 l16)])).bind (fun v30 => (k_b2223f v30 (fun v31 v32 => (c_b v31 (fun v33 => (bif (!v33) then (some ((AV.pv (PV.bool false)), [(Ob.var false 0 (AV.view 1 0 none)), (Ob.row false 0 0 v32)])) else (L_expr_each_o2_1 i12 l13 i14 (IntKind.wrap .i64 (i15 + (1 : Int) : Int)) v32)))))))))))) else none) else (some ((AV.pv (PV.bool true)), [(Ob.var false 0 (AV.view 1 0 none)), (Ob.row false 0 0 l16)]))) := (T137o2.loop [1, 1, 0, 1, 0] 2 _ rfl).trans (by kernel_rfl)
theorem o_expr_each_o2_1 (i0 : Int) (i1 : Int) (i2 : Int) (i3 : Int) (l4 : List PV) (i5 : Int) (l6 : List PV) : W n_expr_each false [(AV.pv (PV.agg [(PV.int .i64 i0), (PV.int .i64 i1), (PV.int .i64 i2), (PV.int .i64 i3), (PV.slice 6 l4)])), (AV.pv (PV.int .i64 i5)), (AV.fnv n_expr_Cols_1 [] [(AV.own 0 0)])] [(Ob.var false 0 (AV.view 1 0 none)), (Ob.row false 0 0 l6)] =
  (((W n_expr_Cols_1 false [(AV.pv (PV.agg [(PV.int .i64 i0), (PV.int .i64 i1), (PV.int .i64 i2), (PV.int .i64 i3), (PV.slice 6 l4)])), (AV.pv (PV.int .i64 i5)), (AV.own 0 0)] [(Ob.var false 0 (AV.view 1 0 none)), (Ob.row false 0 0 l6)])).bind (fun v8 => (k_b2223f v8 (fun v9 v10 => (c_b v9 (fun v11 => (bif (!v11) then (some ((AV.pv (PV.bool false)), [(Ob.var false 0 (AV.view 1 0 none)), (Ob.row false 0 0 v10)])) else (L_expr_each_o2_1 i5 l4 (((List.length l4) : Nat) : Int) (0 : Int) v10)))))))) := goO (by kernel_rfl) (by kernel_rfl) T137o2 rfl (by kernel_rfl)
noncomputable def jF138o2 : Jn (AV × List Ob) := (Classical.choose (exT fi138 (finO cfg fi138 false 2))).1
noncomputable def lF138o2 : Ln (AV × List Ob) := (Classical.choose (exT fi138 (finO cfg fi138 false 2))).2
theorem T138o2 : Tied cfg W fi138 (finO cfg fi138 false 2) jF138o2 lF138o2 := Classical.choose_spec (exT fi138 (finO cfg fi138 false 2))
theorem o_expr_Cols_1_o2_1 (i0 : Int) (i1 : Int) (i2 : Int) (i3 : Int) (l4 : List PV) (i5 : Int) (l6 : List PV) : W n_expr_Cols_1 false [(AV.pv (PV.agg [(PV.int .i64 i0), (PV.int .i64 i1), (PV.int .i64 i2), (PV.int .i64 i3), (PV.slice 6 l4)])), (AV.pv (PV.int .i64 i5)), (AV.own 0 0)] [(Ob.var false 0 (AV.view 1 0 none)), (Ob.row false 0 0 l6)] =
  (bif (i0 == (1 : Int)) then (bif (true && (decide (((List.length l6) + 1 : Nat) ≤ 4294967296))) then (some ((AV.pv (PV.bool true)), [(Ob.var false 0 (AV.view 1 0 none)), (Ob.row false 0 0 (l6 ++ [(PV.int .i64 i1)]))])) else none) else (some ((AV.pv (PV.bool true)), [(Ob.var false 0 (AV.view 1 0 none)), (Ob.row false 0 0 l6)]))) := goO (by kernel_rfl) (by kernel_rfl) T138o2 rfl (by kernel_rfl)
noncomputable def jF141 : Jn PV := (Classical.choose (exT fi141 (fin cfg fi141))).1
noncomputable def lF141 : Ln PV := (Classical.choose (exT fi141 (fin cfg fi141))).2
theorem T141 : Tied cfg W fi141 (fin cfg fi141) jF141 lF141 := Classical.choose_spec (exT fi141 (fin cfg fi141))
theorem e_query_within_1 (a0 : Int) (c0 : List PV) : wc W n_query_within_1 [(PV.int .i64 a0), (PV.imm 0 (PV.slice 0 c0) 0)] =
  (((wc W n_slices_Contains_int_int [(PV.slice 0 c0), (PV.int .i64 a0)])).bind (fun v1 => (c_b v1 (fun v2 => (some (PV.bool (!v2))))))) := go (by kernel_rfl) (by kernel_rfl) T141 (by kernel_rfl)
noncomputable def jF145o3 : Jn (AV × List Ob) := (Classical.choose (exT fi145 (finO cfg fi145 false 3))).1
noncomputable def lF145o3 : Ln (AV × List Ob) := (Classical.choose (exT fi145 (finO cfg fi145 false 3))).2
theorem T145o3 : Tied cfg W fi145 (finO cfg fi145 false 3) jF145o3 lF145o3 := Classical.choose_spec (exT fi145 (finO cfg fi145 false 3))
theorem o_query_New_1_o3_1 (i0 : Int) (i1 : Int) (i2 : Int) (i3 : Int) : W n_query_New_1 false [(AV.pv (PV.int .i64 i0)), (AV.own 0 0), (AV.own 1 0), (AV.own 2 0)] [(Ob.var false 0 (AV.pv (PV.int .i64 i1))), (Ob.var false 0 (AV.pv (PV.int .i64 i2))), (Ob.var false 0 (AV.pv (PV.int .i64 i3)))] =
  (((wc W n_query_set_holds [(PV.int .i64 i1), (PV.int .i64 i0)])).bind (fun v1 => (c_b v1 (fun v2 => (bif v2 then (((wc W n_query_set_holds [(PV.int .i64 i2), (PV.int .i64 i0)])).bind (fun v3 => (c_b v3 (fun v4 => (bif (!v4) then (((wc W n_query_set_holds [(PV.int .i64 i3), (PV.int .i64 i0)])).bind (fun v5 => (c_b v5 (fun v6 => (some ((AV.pv (PV.bool (!v6))), [(Ob.var false 0 (AV.pv (PV.int .i64 i1))), (Ob.var false 0 (AV.pv (PV.int .i64 i2))), (Ob.var false 0 (AV.pv (PV.int .i64 i3)))])))))) else (some ((AV.pv (PV.bool false)), [(Ob.var false 0 (AV.pv (PV.int .i64 i1))), (Ob.var false 0 (AV.pv (PV.int .i64 i2))), (Ob.var false 0 (AV.pv (PV.int .i64 i3)))]))))))) else (some ((AV.pv (PV.bool false)), [(Ob.var false 0 (AV.pv (PV.int .i64 i1))), (Ob.var false 0 (AV.pv (PV.int .i64 i2))), (Ob.var false 0 (AV.pv (PV.int .i64 i3)))]))))))) := goO (by kernel_rfl) (by kernel_rfl) T145o3 rfl (by kernel_rfl)
noncomputable def jF156 : Jn PV := (Classical.choose (exT fi156 (fin cfg fi156))).1
noncomputable def lF156 : Ln PV := (Classical.choose (exT fi156 (fin cfg fi156))).2
theorem T156 : Tied cfg W fi156 (fin cfg fi156) jF156 lF156 := Classical.choose_spec (exT fi156 (fin cfg fi156))
theorem e_val_Of (a0 : Int) : wc W n_val_Of [(PV.int .i64 a0)] =
  (some (PV.agg [(PV.int .i64 (0 : Int)), (PV.int .i64 a0)])) := go (by kernel_rfl) (by kernel_rfl) T156 (by kernel_rfl)
noncomputable def jF164 : Jn PV := (Classical.choose (exT fi164 (fin cfg fi164))).1
noncomputable def lF164 : Ln PV := (Classical.choose (exT fi164 (fin cfg fi164))).2
theorem T164 : Tied cfg W fi164 (fin cfg fi164) jF164 lF164 := Classical.choose_spec (exT fi164 (fin cfg fi164))
theorem e_query_Of (a0_0 : Int) (a0_1 : Int) (a0_2 : Int) (a0_3 : Int) (a0_4 : List PV) : wc W n_query_Of [(PV.agg [(PV.int .i64 a0_0), (PV.int .i64 a0_1), (PV.int .i64 a0_2), (PV.int .i64 a0_3), (PV.slice 6 a0_4)])] =
  (((wc W n_expr_Cols [(PV.agg [(PV.int .i64 a0_0), (PV.int .i64 a0_1), (PV.int .i64 a0_2), (PV.int .i64 a0_3), (PV.slice 6 a0_4)])])).bind (fun v1 => (c_s0 v1 (fun v2 => (((wc W n_query_of [(PV.slice 0 v2)])).bind (fun v3 => (c_i64 v3 (fun v4 => (some (PV.int .i64 v4)))))))))) := go (by kernel_rfl) (by kernel_rfl) T164 (by kernel_rfl)
noncomputable def jF165 : Jn PV := (Classical.choose (exT fi165 (fin cfg fi165))).1
noncomputable def lF165 : Ln PV := (Classical.choose (exT fi165 (fin cfg fi165))).2
theorem T165 : Tied cfg W fi165 (fin cfg fi165) jF165 lF165 := Classical.choose_spec (exT fi165 (fin cfg fi165))
noncomputable def L_slices_IndexFunc_api_Val_api_Val_b1f6_1 (l1 : List PV) (p2 : PV) (i3 : Int) (i4 : Int) : Option PV := lF165 [0, 1, 0, 1] 0 (St.mk [(0, (AV.pv (PV.slice 3 l1))), (1, (AV.pv p2)), (7, (AV.pv (PV.int .i64 i3))), (8, (AV.pv (PV.int .i64 i4)))] [])
theorem L_slices_IndexFunc_api_Val_api_Val_b1f6_1_eq (l1 : List PV) (p2 : PV) (i3 : Int) (i4 : Int) : L_slices_IndexFunc_api_Val_api_Val_b1f6_1 l1 p2 i3 i4 =
  (bif (decide (i4 < i3)) then (bif (decide ((0 : Int) ≤ i4)) then (((l1)[(Int.toNat i4)]?).bind (fun v5 => (c_g_i64_i64 v5 (fun v6 v7 => (((PV.asFn p2)).bind (fun v8 => (((wc W (Prod.fst v8) (((Prod.fst (Prod.snd v8)) ++ [(PV.agg [(PV.int .i64 v6), (PV.int .i64 v7)])]) ++ (Prod.snd (Prod.snd v8))))).bind (fun v9 => (c_b v9 (fun v10 => (bif v10 then (some (PV.int .i64 i4)) else (L_slices_IndexFunc_api_Val_api_Val_b1f6_1 l1 p2 i3 (IntKind.wrap .i64 (i4 + (1 : Int) : Int)))))))))))))) else none) else (some (PV.int .i64 (-1 : Int)))) := (T165.loop [1, 0, 1, 0] 0 _ rfl).trans (by kernel_rfl)
theorem e_slices_IndexFunc_api_Val_api_Val_b1f6 (a0 : List PV) (a1 : PV) : wc W n_slices_IndexFunc_api_Val_api_Val_b1f6 [(PV.slice 3 a0), a1] =
  (L_slices_IndexFunc_api_Val_api_Val_b1f6_1 a0 a1 (((List.length a0) : Nat) : Int) (0 : Int)) := go (by kernel_rfl) (by kernel_rfl) T165 (by kernel_rfl)
noncomputable def jF167 : Jn PV := (Classical.choose (exT fi167 (fin cfg fi167))).1
noncomputable def lF167 : Ln PV := (Classical.choose (exT fi167 (fin cfg fi167))).2
theorem T167 : Tied cfg W fi167 (fin cfg fi167) jF167 lF167 := Classical.choose_spec (exT fi167 (fin cfg fi167))
noncomputable def L_slices_IndexFunc_api_Expr_api_Expr_1 (l1 : List PV) (p2 : PV) (i3 : Int) (i4 : Int) : Option PV := lF167 [0, 1, 0, 1] 0 (St.mk [(0, (AV.pv (PV.slice 6 l1))), (1, (AV.pv p2)), (7, (AV.pv (PV.int .i64 i3))), (8, (AV.pv (PV.int .i64 i4)))] [])
theorem L_slices_IndexFunc_api_Expr_api_Expr_1_eq (l1 : List PV) (p2 : PV) (i3 : Int) (i4 : Int) : L_slices_IndexFunc_api_Expr_api_Expr_1 l1 p2 i3 i4 =
  (bif (decide (i4 < i3)) then (bif (decide ((0 : Int) ≤ i4)) then (((l1)[(Int.toNat i4)]?).bind (fun v5 => (c_g_i64_i64_i64_i64_s6 v5 (fun v6 v7 v8 v9 v10 => (((PV.asFn p2)).bind (fun v11 => (((wc W (Prod.fst v11) (((Prod.fst (Prod.snd v11)) ++ [(PV.agg [(PV.int .i64 v6), (PV.int .i64 v7), (PV.int .i64 v8), (PV.int .i64 v9), (PV.slice 6 v10)])]) ++ (Prod.snd (Prod.snd v11))))).bind (fun v12 => (c_b v12 (fun v13 => (bif v13 then (some (PV.int .i64 i4)) else (L_slices_IndexFunc_api_Expr_api_Expr_1 l1 p2 i3 (IntKind.wrap .i64 (i4 + (1 : Int) : Int)))))))))))))) else none) else (some (PV.int .i64 (-1 : Int)))) := (T167.loop [1, 0, 1, 0] 0 _ rfl).trans (by kernel_rfl)
theorem e_slices_IndexFunc_api_Expr_api_Expr (a0 : List PV) (a1 : PV) : wc W n_slices_IndexFunc_api_Expr_api_Expr [(PV.slice 6 a0), a1] =
  (L_slices_IndexFunc_api_Expr_api_Expr_1 a0 a1 (((List.length a0) : Nat) : Int) (0 : Int)) := go (by kernel_rfl) (by kernel_rfl) T167 (by kernel_rfl)
noncomputable def jF168 : Jn PV := (Classical.choose (exT fi168 (fin cfg fi168))).1
noncomputable def lF168 : Ln PV := (Classical.choose (exT fi168 (fin cfg fi168))).2
theorem T168 : Tied cfg W fi168 (fin cfg fi168) jF168 lF168 := Classical.choose_spec (exT fi168 (fin cfg fi168))
theorem e_val_True (a0_0 : Int) (a0_1 : Int) : wc W n_val_True [(PV.agg [(PV.int .i64 a0_0), (PV.int .i64 a0_1)])] =
  (bif (a0_0 == (0 : Int)) then (some (PV.bool (a0_1 != (0 : Int)))) else (some (PV.bool false))) := go (by kernel_rfl) (by kernel_rfl) T168 (by kernel_rfl)
noncomputable def jF169 : Jn PV := (Classical.choose (exT fi169 (fin cfg fi169))).1
noncomputable def lF169 : Ln PV := (Classical.choose (exT fi169 (fin cfg fi169))).2
theorem T169 : Tied cfg W fi169 (fin cfg fi169) jF169 lF169 := Classical.choose_spec (exT fi169 (fin cfg fi169))
theorem e_expr_Eval (a0_0 : Int) (a0_1 : Int) (a0_2 : Int) (a0_3 : Int) (a0_4 : List PV) (a1 : List PV) (a2 : List PV) : wc W n_expr_Eval [(PV.agg [(PV.int .i64 a0_0), (PV.int .i64 a0_1), (PV.int .i64 a0_2), (PV.int .i64 a0_3), (PV.slice 6 a0_4)]), (PV.slice 0 a1), (PV.slice 3 a2)] =
  (((wc W n_expr_May [(PV.agg [(PV.int .i64 a0_0), (PV.int .i64 a0_1), (PV.int .i64 a0_2), (PV.int .i64 a0_3), (PV.slice 6 a0_4)])])).bind (fun v1 => (c_b v1 (fun v2 => (bif (!v2) then (some (PV.agg [(PV.int .i64 (2 : Int)), (PV.int .i64 (0 : Int))])) else (((wc W n_expr_eval [(PV.agg [(PV.int .i64 a0_0), (PV.int .i64 a0_1), (PV.int .i64 a0_2), (PV.int .i64 a0_3), (PV.slice 6 a0_4)]), (PV.slice 0 a1), (PV.slice 3 a2)])).bind (fun v3 => (c_g_i64_i64 v3 (fun v4 v5 => (some (PV.agg [(PV.int .i64 v4), (PV.int .i64 v5)]))))))))))) := go (by kernel_rfl) (by kernel_rfl) T169 (by kernel_rfl)
noncomputable def jF174 : Jn PV := (Classical.choose (exT fi174 (fin cfg fi174))).1
noncomputable def lF174 : Ln PV := (Classical.choose (exT fi174 (fin cfg fi174))).2
theorem T174 : Tied cfg W fi174 (fin cfg fi174) jF174 lF174 := Classical.choose_spec (exT fi174 (fin cfg fi174))
theorem e_data_row_1 (a0_0 : Int) (a0_1 : Int) : wc W n_data_row_1 [(PV.agg [(PV.int .i64 a0_0), (PV.int .i64 a0_1)])] =
  (((wc W n_val_May [(PV.agg [(PV.int .i64 a0_0), (PV.int .i64 a0_1)])])).bind (fun v1 => (c_b v1 (fun v2 => (some (PV.bool (!v2))))))) := go (by kernel_rfl) (by kernel_rfl) T174 (by kernel_rfl)
noncomputable def jF175o1 : Jn (AV × List Ob) := (Classical.choose (exT fi175 (finO cfg fi175 false 1))).1
noncomputable def lF175o1 : Ln (AV × List Ob) := (Classical.choose (exT fi175 (finO cfg fi175 false 1))).2
theorem T175o1 : Tied cfg W fi175 (finO cfg fi175 false 1) jF175o1 lF175o1 := Classical.choose_spec (exT fi175 (finO cfg fi175 false 1))
noncomputable def L_slices_IndexFunc_api_Val_api_Val_fa1b_o1_1 (l1 : List PV) (l2 : List PV) (i3 : Int) (i4 : Int) (i5 : Int) : Option (AV × List Ob) := lF175o1 [0, 1, 0, 1] 1 (St.mk [(0, (AV.pv (PV.slice 0 l1))), (1, (AV.fnv n_data_Fits_1 [] [(AV.pv (PV.imm 2 (PV.agg [(PV.slice 3 l2)]) 0)), (AV.own 0 0)])), (7, (AV.pv (PV.int .i64 i3))), (8, (AV.pv (PV.int .i64 i4)))] [(Ob.var false 0 (AV.pv (PV.int .i64 i5)))])
theorem L_slices_IndexFunc_api_Val_api_Val_fa1b_o1_1_eq (l1 : List PV) (l2 : List PV) (i3 : Int) (i4 : Int) (i5 : Int) : L_slices_IndexFunc_api_Val_api_Val_fa1b_o1_1 l1 l2 i3 i4 i5 =
  (bif (decide (i4 < i3)) then (bif (decide ((0 : Int) ≤ i4)) then (((l1)[(Int.toNat i4)]?).bind (fun v6 => (c_s3 v6 (fun v7 => (((W n_data_Fits_1 false [(AV.pv (PV.slice 3 v7)), (AV.pv (PV.imm 2 (PV.agg [(PV.slice 3 l2)]) 0)), (AV.own 0 0)] [(Ob.var false 0 (AV.pv (PV.int .i64 i5)))])).bind (fun v11 => (k_5b106d v11 (fun v12 v13 => (c_b v12 (fun v14 => (bif v14 then (some ((AV.pv (PV.int .i64 i4)), [(Ob.var false 0 (AV.pv (PV.int .i64 v13)))])) else (L_slices_IndexFunc_api_Val_api_Val_fa1b_o1_1 l1 l2 i3 (IntKind.wrap .i64 (i4 + (1 : Int) : Int)) v13)))))))))))) else none) else (some ((AV.pv (PV.int .i64 (-1 : Int))), [(Ob.var false 0 (AV.pv (PV.int .i64 i5)))]))) := (T175o1.loop [1, 0, 1, 0] 1 _ rfl).trans (by kernel_rfl)
theorem o_slices_IndexFunc_api_Val_api_Val_fa1b_o1_1 (l0 : List PV) (l1 : List PV) (i2 : Int) : W n_slices_IndexFunc_api_Val_api_Val_fa1b false [(AV.pv (PV.slice 0 l0)), (AV.fnv n_data_Fits_1 [] [(AV.pv (PV.imm 2 (PV.agg [(PV.slice 3 l1)]) 0)), (AV.own 0 0)])] [(Ob.var false 0 (AV.pv (PV.int .i64 i2)))] =
  (L_slices_IndexFunc_api_Val_api_Val_fa1b_o1_1 l0 l1 (((List.length l0) : Nat) : Int) (0 : Int) i2) := goO (by kernel_rfl) (by kernel_rfl) T175o1 rfl (by kernel_rfl)
noncomputable def jF179 : Jn PV := (Classical.choose (exT fi179 (fin cfg fi179))).1
noncomputable def lF179 : Ln PV := (Classical.choose (exT fi179 (fin cfg fi179))).2
theorem T179 : Tied cfg W fi179 (fin cfg fi179) jF179 lF179 := Classical.choose_spec (exT fi179 (fin cfg fi179))
theorem e_val_Eq (a0_0 : Int) (a0_1 : Int) (a1_0 : Int) (a1_1 : Int) : wc W n_val_Eq [(PV.agg [(PV.int .i64 a0_0), (PV.int .i64 a0_1)]), (PV.agg [(PV.int .i64 a1_0), (PV.int .i64 a1_1)])] =
  (((wc W n_val_odd [(PV.slice 3 [(PV.agg [(PV.int .i64 a0_0), (PV.int .i64 a0_1)]), (PV.agg [(PV.int .i64 a1_0), (PV.int .i64 a1_1)])])])).bind (fun v1 => (((PV.asTup v1)).bind (fun v2 => (((v2)[0]?).bind (fun v3 => (c_g_i64_i64 v3 (fun v4 v5 => (((PV.asTup v1)).bind (fun v6 => (((v6)[1]?).bind (fun v7 => (c_b v7 (fun v8 => (bif v8 then (some (PV.agg [(PV.int .i64 v4), (PV.int .i64 v5)])) else (((((bif (a0_0 == a1_0) then (bif (a0_1 == a1_1) then (some true) else (some false)) else (some false))).bind (fun v9 => (some (PV.bool v9))))).bind (fun v10 => (c_b v10 (fun v11 => (((wc W n_val_of [(PV.bool v11)])).bind (fun v12 => (c_g_i64_i64 v12 (fun v13 v14 => (some (PV.agg [(PV.int .i64 v13), (PV.int .i64 v14)]))))))))))))))))))))))))) := go (by kernel_rfl) (by kernel_rfl) T179 (by kernel_rfl)
noncomputable def jF183 : Jn PV := (Classical.choose (exT fi183 (fin cfg fi183))).1
noncomputable def lF183 : Ln PV := (Classical.choose (exT fi183 (fin cfg fi183))).2
theorem T183 : Tied cfg W fi183 (fin cfg fi183) jF183 lF183 := Classical.choose_spec (exT fi183 (fin cfg fi183))
theorem e_roadbookref02_Few (a0_0 : Int) (a0_1 : Int) (a0_2 : Int) (a0_3 : Int) (a0_4 : List PV) (a1 : Int) : wc W n_roadbookref02_Few [(PV.agg [(PV.int .i64 a0_0), (PV.int .i64 a0_1), (PV.int .i64 a0_2), (PV.int .i64 a0_3), (PV.slice 6 a0_4)]), (PV.int .i64 a1)] =
  (((wc W n_roadbookref02_size [(PV.agg [(PV.int .i64 a0_0), (PV.int .i64 a0_1), (PV.int .i64 a0_2), (PV.int .i64 a0_3), (PV.slice 6 a0_4)]), (PV.int .i64 a1)])).bind (fun v1 => (c_i64 v1 (fun v2 => (some (PV.bool (decide (v2 ≤ a1)))))))) := go (by kernel_rfl) (by kernel_rfl) T183 (by kernel_rfl)
noncomputable def jF184r0 : Jn (AV × List Ob) := (Classical.choose (exT fi184 (finO cfg fi184 true 0))).1
noncomputable def lF184r0 : Ln (AV × List Ob) := (Classical.choose (exT fi184 (finO cfg fi184 true 0))).2
theorem T184r0 : Tied cfg W fi184 (finO cfg fi184 true 0) jF184r0 lF184r0 := Classical.choose_spec (exT fi184 (finO cfg fi184 true 0))
noncomputable def J_slices_Grow_int_int_r0_1 (i1 : Int) (l2 : List PV) : Option (AV × List Ob) := jF184r0 [1, 1] (St.mk [(0, (AV.nil 0)), (1, (AV.pv (PV.int .i64 i1)))] [(Ob.row false 0 0 l2)])
theorem J_slices_Grow_int_int_r0_1_eq (i1 : Int) (l2 : List PV) : J_slices_Grow_int_int_r0_1 i1 l2 =
  (bif (decide (GT.gt (IntKind.wrap .i64 (i1 - (0 : Int) : Int)) (0 : Int))) then (bif ((((decide ((0 : Int) < (IntKind.wrap .i64 (i1 - (0 : Int) : Int)))) && (decide ((IntKind.wrap .i64 (i1 - (0 : Int) : Int)) ≤ (4294967296 : Int)))) && true) && true) then (some ((AV.view 0 0 none), [(Ob.row false 0 0 [])])) else none) else (some ((AV.view 0 0 none), [(Ob.row false 0 0 [])]))) := (T184r0.join [1, 1] _).trans (by kernel_rfl)
theorem o_slices_Grow_int_int_r0_1 (i0 : Int) : W n_slices_Grow_int_int true [(AV.nil 0), (AV.pv (PV.int .i64 i0))] [] =
  (bif (decide (i0 < (0 : Int))) then none else (J_slices_Grow_int_int_r0_1 i0 [])) := goO (by kernel_rfl) (by kernel_rfl) T184r0 rfl (by kernel_rfl)
noncomputable def jF185r0 : Jn (AV × List Ob) := (Classical.choose (exT fi185 (finO cfg fi185 true 0))).1
noncomputable def lF185r0 : Ln (AV × List Ob) := (Classical.choose (exT fi185 (finO cfg fi185 true 0))).2
theorem T185r0 : Tied cfg W fi185 (finO cfg fi185 true 0) jF185r0 lF185r0 := Classical.choose_spec (exT fi185 (finO cfg fi185 true 0))
noncomputable def J_slices_Grow_api_Val_api_Val_r0_1 (i1 : Int) (l2 : List PV) : Option (AV × List Ob) := jF185r0 [1, 1] (St.mk [(0, (AV.nil 3)), (1, (AV.pv (PV.int .i64 i1)))] [(Ob.row false 0 3 l2)])
theorem J_slices_Grow_api_Val_api_Val_r0_1_eq (i1 : Int) (l2 : List PV) : J_slices_Grow_api_Val_api_Val_r0_1 i1 l2 =
  (bif (decide (GT.gt (IntKind.wrap .i64 (i1 - (0 : Int) : Int)) (0 : Int))) then (bif ((((decide ((0 : Int) < (IntKind.wrap .i64 (i1 - (0 : Int) : Int)))) && (decide ((IntKind.wrap .i64 (i1 - (0 : Int) : Int)) ≤ (4294967296 : Int)))) && true) && true) then (some ((AV.view 0 0 none), [(Ob.row false 0 3 [])])) else none) else (some ((AV.view 0 0 none), [(Ob.row false 0 3 [])]))) := (T185r0.join [1, 1] _).trans (by kernel_rfl)
theorem o_slices_Grow_api_Val_api_Val_r0_1 (i0 : Int) : W n_slices_Grow_api_Val_api_Val true [(AV.nil 3), (AV.pv (PV.int .i64 i0))] [] =
  (bif (decide (i0 < (0 : Int))) then none else (J_slices_Grow_api_Val_api_Val_r0_1 i0 [])) := goO (by kernel_rfl) (by kernel_rfl) T185r0 rfl (by kernel_rfl)
noncomputable def jF186 : Jn PV := (Classical.choose (exT fi186 (fin cfg fi186))).1
noncomputable def lF186 : Ln PV := (Classical.choose (exT fi186 (fin cfg fi186))).2
theorem T186 : Tied cfg W fi186 (fin cfg fi186) jF186 lF186 := Classical.choose_spec (exT fi186 (fin cfg fi186))
noncomputable def L_slices_IndexFunc_api_Def_api_Def_1 (l1 : List PV) (p2 : PV) (i3 : Int) (i4 : Int) : Option PV := lF186 [0, 1, 0, 1] 0 (St.mk [(0, (AV.pv (PV.slice 3 l1))), (1, (AV.pv p2)), (7, (AV.pv (PV.int .i64 i3))), (8, (AV.pv (PV.int .i64 i4)))] [])
theorem L_slices_IndexFunc_api_Def_api_Def_1_eq (l1 : List PV) (p2 : PV) (i3 : Int) (i4 : Int) : L_slices_IndexFunc_api_Def_api_Def_1 l1 p2 i3 i4 =
  (bif (decide (i4 < i3)) then (bif (decide ((0 : Int) ≤ i4)) then (((l1)[(Int.toNat i4)]?).bind (fun v5 => (c_g_i64_i64 v5 (fun v6 v7 => (((PV.asFn p2)).bind (fun v8 => (((wc W (Prod.fst v8) (((Prod.fst (Prod.snd v8)) ++ [(PV.agg [(PV.int .i64 v6), (PV.int .i64 v7)])]) ++ (Prod.snd (Prod.snd v8))))).bind (fun v9 => (c_b v9 (fun v10 => (bif v10 then (some (PV.int .i64 i4)) else (L_slices_IndexFunc_api_Def_api_Def_1 l1 p2 i3 (IntKind.wrap .i64 (i4 + (1 : Int) : Int)))))))))))))) else none) else (some (PV.int .i64 (-1 : Int)))) := (T186.loop [1, 0, 1, 0] 0 _ rfl).trans (by kernel_rfl)
theorem e_slices_IndexFunc_api_Def_api_Def (a0 : List PV) (a1 : PV) : wc W n_slices_IndexFunc_api_Def_api_Def [(PV.slice 3 a0), a1] =
  (L_slices_IndexFunc_api_Def_api_Def_1 a0 a1 (((List.length a0) : Nat) : Int) (0 : Int)) := go (by kernel_rfl) (by kernel_rfl) T186 (by kernel_rfl)
noncomputable def jF187o1 : Jn (AV × List Ob) := (Classical.choose (exT fi187 (finO cfg fi187 false 1))).1
noncomputable def lF187o1 : Ln (AV × List Ob) := (Classical.choose (exT fi187 (finO cfg fi187 false 1))).2
theorem T187o1 : Tied cfg W fi187 (finO cfg fi187 false 1) jF187o1 lF187o1 := Classical.choose_spec (exT fi187 (finO cfg fi187 false 1))
theorem o_expr_May_1_o1_1 (i0 : Int) (i1 : Int) (i2 : Int) (i3 : Int) (l4 : List PV) (i5 : Int) (i6 : Int) : W n_expr_May_1 false [(AV.pv (PV.agg [(PV.int .i64 i0), (PV.int .i64 i1), (PV.int .i64 i2), (PV.int .i64 i3), (PV.slice 6 l4)])), (AV.pv (PV.int .i64 i5)), (AV.own 0 0)] [(Ob.var false 0 (AV.pv (PV.int .i64 i6)))] =
  (bif (decide ((IntKind.wrap .i64 (i6 + (1 : Int) : Int)) ≤ (30 : Int))) then (bif (decide (i5 ≤ (6 : Int))) then (((wc W n_expr_part [(PV.agg [(PV.int .i64 i0), (PV.int .i64 i1), (PV.int .i64 i2), (PV.int .i64 i3), (PV.slice 6 l4)])])).bind (fun v1 => (c_b v1 (fun v2 => (some ((AV.pv (PV.bool v2)), [(Ob.var false 0 (AV.pv (PV.int .i64 (IntKind.wrap .i64 (i6 + (1 : Int) : Int)))))])))))) else (some ((AV.pv (PV.bool false)), [(Ob.var false 0 (AV.pv (PV.int .i64 (IntKind.wrap .i64 (i6 + (1 : Int) : Int)))))]))) else (some ((AV.pv (PV.bool false)), [(Ob.var false 0 (AV.pv (PV.int .i64 (IntKind.wrap .i64 (i6 + (1 : Int) : Int)))))]))) := goO (by kernel_rfl) (by kernel_rfl) T187o1 rfl (by kernel_rfl)
noncomputable def jF188 : Jn PV := (Classical.choose (exT fi188 (fin cfg fi188))).1
noncomputable def lF188 : Ln PV := (Classical.choose (exT fi188 (fin cfg fi188))).2
theorem T188 : Tied cfg W fi188 (fin cfg fi188) jF188 lF188 := Classical.choose_spec (exT fi188 (fin cfg fi188))
noncomputable def J_expr_part_1 (i5 : Int) (i6 : Int) (i7 : Int) (i8 : Int) (l9 : List PV) (b10 : Bool) (i11 : Int) (i12 : Int) (p13 : PV) : Option PV := jF188 [1, 1, 1] (St.mk [(1, (AV.pv (PV.imm 6 (PV.agg [(PV.int .i64 i5), (PV.int .i64 i6), (PV.int .i64 i7), (PV.int .i64 i8), (PV.slice 6 l9)]) 0))), (4, (AV.pv (PV.bool b10)))] [(Ob.var false 4 (AV.pv (PV.agg [(PV.int .i64 i11), (PV.int .i64 i12), p13])))])
noncomputable def J_expr_part_2 (i14 : Int) (i15 : Int) (i16 : Int) (i17 : Int) (l18 : List PV) (b19 : Bool) (b20 : Bool) (i21 : Int) (i22 : Int) (p23 : PV) : Option PV := jF188 [1, 1, 1, 1] (St.mk [(1, (AV.pv (PV.imm 6 (PV.agg [(PV.int .i64 i14), (PV.int .i64 i15), (PV.int .i64 i16), (PV.int .i64 i17), (PV.slice 6 l18)]) 0))), (4, (AV.pv (PV.bool b19))), (5, (AV.pv (PV.bool b20)))] [(Ob.var false 4 (AV.pv (PV.agg [(PV.int .i64 i21), (PV.int .i64 i22), p23])))])
noncomputable def J_expr_part_3 (i27 : Int) (i28 : Int) (i29 : Int) (i30 : Int) (l31 : List PV) (b32 : Bool) (b33 : Bool) (b34 : Bool) (i35 : Int) (i36 : Int) (p37 : PV) : Option PV := jF188 [1, 1, 1, 1, 1] (St.mk [(1, (AV.pv (PV.imm 6 (PV.agg [(PV.int .i64 i27), (PV.int .i64 i28), (PV.int .i64 i29), (PV.int .i64 i30), (PV.slice 6 l31)]) 0))), (4, (AV.pv (PV.bool b32))), (5, (AV.pv (PV.bool b33))), (6, (AV.pv (PV.bool b34)))] [(Ob.var false 4 (AV.pv (PV.agg [(PV.int .i64 i35), (PV.int .i64 i36), p37])))])
theorem J_expr_part_1_eq (i5 : Int) (i6 : Int) (i7 : Int) (i8 : Int) (l9 : List PV) (b10 : Bool) (i11 : Int) (i12 : Int) (p13 : PV) : J_expr_part_1 i5 i6 i7 i8 l9 b10 i11 i12 p13 =
  (bif (i6 == (0 : Int)) then (J_expr_part_2 i5 i6 i7 i8 l9 b10 true i11 i12 p13) else (bif (i5 == (1 : Int)) then (bif (decide (GT.gt i6 (0 : Int))) then (J_expr_part_2 i5 i6 i7 i8 l9 b10 (decide (i6 ≤ (15 : Int))) i11 i12 p13) else (J_expr_part_2 i5 i6 i7 i8 l9 b10 false i11 i12 p13)) else (J_expr_part_2 i5 i6 i7 i8 l9 b10 false i11 i12 p13))) := (T188.join [1, 1, 1] _).trans (by kernel_rfl)
theorem J_expr_part_2_eq (i14 : Int) (i15 : Int) (i16 : Int) (i17 : Int) (l18 : List PV) (b19 : Bool) (b20 : Bool) (i21 : Int) (i22 : Int) (p23 : PV) : J_expr_part_2 i14 i15 i16 i17 l18 b19 b20 i21 i22 p23 =
  (((((bif (i16 == (0 : Int)) then (bif (i17 == (0 : Int)) then (some true) else (some false)) else (some false))).bind (fun v24 => (some (PV.bool v24))))).bind (fun v25 => (c_b v25 (fun v26 => (bif v26 then (J_expr_part_3 i14 i15 i16 i17 l18 b19 b20 true i21 i22 p23) else (bif (i14 == (0 : Int)) then (((wc W n_val_May [(PV.agg [(PV.int .i64 i16), (PV.int .i64 i17)])])).bind (fun v38 => (c_b v38 (fun v39 => (J_expr_part_3 i14 i15 i16 i17 l18 b19 b20 v39 i21 i22 p23))))) else (J_expr_part_3 i14 i15 i16 i17 l18 b19 b20 false i21 i22 p23))))))) := (T188.join [1, 1, 1, 1] _).trans (by kernel_rfl)
theorem J_expr_part_3_eq (i27 : Int) (i28 : Int) (i29 : Int) (i30 : Int) (l31 : List PV) (b32 : Bool) (b33 : Bool) (b34 : Bool) (i35 : Int) (i36 : Int) (p37 : PV) : J_expr_part_3 i27 i28 i29 i30 l31 b32 b33 b34 i35 i36 p37 =
  (bif (decide (GE.ge i27 (0 : Int))) then (bif (decide (i27 < (11 : Int))) then (bif b32 then (bif b33 then (some (PV.bool b34)) else (some (PV.bool false))) else (some (PV.bool false))) else (some (PV.bool false))) else (some (PV.bool false))) := (T188.join [1, 1, 1, 1, 1] _).trans (by kernel_rfl)
theorem e_expr_part (a0_0 : Int) (a0_1 : Int) (a0_2 : Int) (a0_3 : Int) (a0_4 : List PV) : wc W n_expr_part [(PV.agg [(PV.int .i64 a0_0), (PV.int .i64 a0_1), (PV.int .i64 a0_2), (PV.int .i64 a0_3), (PV.slice 6 a0_4)])] =
  (((wc W n_expr_ways [(PV.int .i64 a0_0)])).bind (fun v1 => (c_g_i64_i64_p v1 (fun v2 v3 v4 => (bif (decide (GE.ge (((List.length a0_4) : Nat) : Int) v2)) then (J_expr_part_1 a0_0 a0_1 a0_2 a0_3 a0_4 (decide ((((List.length a0_4) : Nat) : Int) ≤ v3)) v2 v3 v4) else (J_expr_part_1 a0_0 a0_1 a0_2 a0_3 a0_4 false v2 v3 v4)))))) := go (by kernel_rfl) (by kernel_rfl) T188 (by kernel_rfl)
noncomputable def jF200 : Jn PV := (Classical.choose (exT fi200 (fin cfg fi200))).1
noncomputable def lF200 : Ln PV := (Classical.choose (exT fi200 (fin cfg fi200))).2
theorem T200 : Tied cfg W fi200 (fin cfg fi200) jF200 lF200 := Classical.choose_spec (exT fi200 (fin cfg fi200))
theorem e_val_some_api_Val (a0 : List PV) (a1 : PV) : wc W n_val_some_api_Val [(PV.slice 3 a0), a1] =
  (((wc W n_slices_ContainsFunc_api_Val_api_Val_c5fc [(PV.slice 3 a0), a1])).bind (fun v1 => (c_b v1 (fun v2 => (some (PV.bool v2)))))) := go (by kernel_rfl) (by kernel_rfl) T200 (by kernel_rfl)
noncomputable def jF201 : Jn PV := (Classical.choose (exT fi201 (fin cfg fi201))).1
noncomputable def lF201 : Ln PV := (Classical.choose (exT fi201 (fin cfg fi201))).2
theorem T201 : Tied cfg W fi201 (fin cfg fi201) jF201 lF201 := Classical.choose_spec (exT fi201 (fin cfg fi201))
theorem e_val_kind (a0 : Int) : wc W n_val_kind [(PV.int .i64 a0)] =
  (some (PV.fn n_val_kind_1 [] [(PV.imm 0 (PV.int .i64 a0) 0)])) := go (by kernel_rfl) (by kernel_rfl) T201 (by kernel_rfl)
noncomputable def jF202 : Jn PV := (Classical.choose (exT fi202 (fin cfg fi202))).1
noncomputable def lF202 : Ln PV := (Classical.choose (exT fi202 (fin cfg fi202))).2
theorem T202 : Tied cfg W fi202 (fin cfg fi202) jF202 lF202 := Classical.choose_spec (exT fi202 (fin cfg fi202))
theorem e_val_bad  : wc W n_val_bad [] =
  (some (PV.agg [(PV.int .i64 (2 : Int)), (PV.int .i64 (0 : Int))])) := go (by kernel_rfl) (by kernel_rfl) T202 (by kernel_rfl)
noncomputable def jF204 : Jn PV := (Classical.choose (exT fi204 (fin cfg fi204))).1
noncomputable def lF204 : Ln PV := (Classical.choose (exT fi204 (fin cfg fi204))).2
theorem T204 : Tied cfg W fi204 (fin cfg fi204) jF204 lF204 := Classical.choose_spec (exT fi204 (fin cfg fi204))
theorem e_val_null  : wc W n_val_null [] =
  (some (PV.agg [(PV.int .i64 (1 : Int)), (PV.int .i64 (0 : Int))])) := go (by kernel_rfl) (by kernel_rfl) T204 (by kernel_rfl)
noncomputable def jF209 : Jn PV := (Classical.choose (exT fi209 (fin cfg fi209))).1
noncomputable def lF209 : Ln PV := (Classical.choose (exT fi209 (fin cfg fi209))).2
theorem T209 : Tied cfg W fi209 (fin cfg fi209) jF209 lF209 := Classical.choose_spec (exT fi209 (fin cfg fi209))
noncomputable def L_query_of_1 (i1 : Int) (l2 : List PV) (i3 : Int) (i4 : Int) : Option PV := lF209 [0, 1, 0, 1, 1] 0 (St.mk [(3, (AV.pv (PV.int .i64 i1))), (9, (AV.pv (PV.slice 0 l2))), (10, (AV.pv (PV.int .i64 i3))), (11, (AV.pv (PV.int .i64 i4)))] [])
theorem L_query_of_1_eq (i1 : Int) (l2 : List PV) (i3 : Int) (i4 : Int) : L_query_of_1 i1 l2 i3 i4 =
  (bif (decide (i4 < i3)) then (bif (decide ((0 : Int) ≤ i4)) then (((l2)[(Int.toNat i4)]?).bind (fun v5 => (c_i64 v5 (fun v6 => (((wc W n_data_Split [(PV.int .i64 v6)])).bind (fun v7 => (((PV.asTup v7)).bind (fun v8 => (((v8)[0]?).bind (fun v9 => (c_i64 v9 (fun v10 => (((PV.asTup v7)).bind (fun v11 => (((v11)[1]?).bind (fun v12 => (c_i64 v12 (fun v13 => (((PV.asTup v7)).bind (fun v14 => (((v14)[2]?).bind (fun v15 => (c_b v15 (fun v16 => (((bif (decide (v10 < (0 : Int))) then none else (some (PV.int .i64 (IntKind.wrap .i64 ((1 : Int) * (HPow.hPow (2 : Int) (Min.min (Int.toNat v10) 64)) : Int)))))).bind (fun v17 => (c_i64 v17 (fun v18 => (L_query_of_1 (IntKind.wrap .i64 (((BitVec.toNat (HOr.hOr (BitVec.ofInt 64 i1) (BitVec.ofInt 64 v18))) : Nat) : Int)) l2 i3 (IntKind.wrap .i64 (i4 + (1 : Int) : Int))))))))))))))))))))))))))))))) else none) else (some (PV.int .i64 i1))) := (T209.loop [1, 1, 0, 1, 0] 0 _ rfl).trans (by kernel_rfl)
theorem e_query_of (a0 : List PV) : wc W n_query_of [(PV.slice 0 a0)] =
  (L_query_of_1 (0 : Int) a0 (((List.length a0) : Nat) : Int) (0 : Int)) := go (by kernel_rfl) (by kernel_rfl) T209 (by kernel_rfl)
noncomputable def jF210 : Jn PV := (Classical.choose (exT fi210 (fin cfg fi210))).1
noncomputable def lF210 : Ln PV := (Classical.choose (exT fi210 (fin cfg fi210))).2
theorem T210 : Tied cfg W fi210 (fin cfg fi210) jF210 lF210 := Classical.choose_spec (exT fi210 (fin cfg fi210))
noncomputable def J_expr_eval_1 (l3 : List PV) (i4 : Int) (i5 : Int) (i6 : Int) : Option PV := jF210 [1, 1, 0, 1, 1, 1, 0, 1, 0, 1] (St.mk [(2, (AV.pv (PV.slice 3 l3))), (6, (AV.own 0 0)), (7, (AV.pv (PV.int .i64 i4)))] [(Ob.var false 3 (AV.pv (PV.agg [(PV.int .i64 i5), (PV.int .i64 i6)])))])
noncomputable def L_expr_eval_2 (l7 : List PV) (l8 : List PV) (i9 : Int) (i10 : Int) (i11 : Int) (i12 : Int) (l13 : List PV) (l14 : List PV) (i15 : Int) (i16 : Int) (i17 : Int) (i18 : Int) (l19 : List PV) : Option PV := lF210 [0, 1, 0, 1, 1, 1] 2 (St.mk [(1, (AV.pv (PV.slice 0 l7))), (2, (AV.pv (PV.slice 3 l8))), (3, (AV.pv (PV.imm 6 (PV.agg [(PV.int .i64 i9), (PV.int .i64 i10), (PV.int .i64 i11), (PV.int .i64 i12), (PV.slice 6 l13)]) 0))), (6, (AV.own 0 0)), (8, (AV.view 1 0 none)), (37, (AV.pv (PV.slice 6 l14))), (38, (AV.pv (PV.int .i64 i15))), (39, (AV.pv (PV.int .i64 i16)))] [(Ob.var false 3 (AV.pv (PV.agg [(PV.int .i64 i17), (PV.int .i64 i18)]))), (Ob.row false 0 3 l19)])
theorem J_expr_eval_1_eq (l3 : List PV) (i4 : Int) (i5 : Int) (i6 : Int) : J_expr_eval_1 l3 i4 i5 i6 =
  (bif (decide ((0 : Int) ≤ i4)) then (((l3)[(Int.toNat i4)]?).bind (fun v20 => (c_g_i64_i64 v20 (fun v21 v22 => (some (PV.agg [(PV.int .i64 v21), (PV.int .i64 v22)])))))) else none) := (T210.join [1, 0, 1, 0, 1, 1, 1, 0, 1, 1] _).trans (by kernel_rfl)
theorem L_expr_eval_2_eq (l7 : List PV) (l8 : List PV) (i9 : Int) (i10 : Int) (i11 : Int) (i12 : Int) (l13 : List PV) (l14 : List PV) (i15 : Int) (i16 : Int) (i17 : Int) (i18 : Int) (l19 : List PV) : L_expr_eval_2 l7 l8 i9 i10 i11 i12 l13 l14 i15 i16 i17 i18 l19 =
  (bif (decide (i16 < i15)) then (bif (decide ((0 : Int) ≤ i16)) then (((l14)[(Int.toNat i16)]?).bind (fun v23 => (c_g_i64_i64_i64_i64_s6 v23 (fun v24 v25 v26 v27 v28 => (((wc W n_expr_eval [(PV.agg [(PV.int .i64 v24), (PV.int .i64 v25), (PV.int .i64 v26), (PV.int .i64 v27), (PV.slice 6 v28)]), (PV.slice 0 l7), (PV.slice 3 l8)])).bind (fun v29 => (c_g_i64_i64 v29 (fun v30 v31 => (bif (true && (decide (((List.length l19) + 1 : Nat) ≤ 4294967296))) then (L_expr_eval_2 l7 l8 i9 i10 i11 i12 l13 l14 i15 (IntKind.wrap .i64 (i16 + (1 : Int) : Int)) i17 i18 (l19 ++ [(PV.agg [(PV.int .i64 v30), (PV.int .i64 v31)])])) else none))))))))) else none) else (((wc W n_expr_ways [(PV.int .i64 i9)])).bind (fun v32 => (c_g_i64_i64_p v32 (fun v33 v34 v35 => (((PV.asFn v35)).bind (fun v36 => (((wc W (Prod.fst v36) (((Prod.fst (Prod.snd v36)) ++ [(PV.slice 3 l19)]) ++ (Prod.snd (Prod.snd v36))))).bind (fun v37 => (c_g_i64_i64 v37 (fun v38 v39 => (some (PV.agg [(PV.int .i64 v38), (PV.int .i64 v39)]))))))))))))) := (T210.loop [1, 1, 1, 0, 1, 0] 2 _ rfl).trans (by kernel_rfl)
theorem e_expr_eval (a0_0 : Int) (a0_1 : Int) (a0_2 : Int) (a0_3 : Int) (a0_4 : List PV) (a1 : List PV) (a2 : List PV) : wc W n_expr_eval [(PV.agg [(PV.int .i64 a0_0), (PV.int .i64 a0_1), (PV.int .i64 a0_2), (PV.int .i64 a0_3), (PV.slice 6 a0_4)]), (PV.slice 0 a1), (PV.slice 3 a2)] =
  (bif (a0_0 == (0 : Int)) then (some (PV.agg [(PV.int .i64 a0_2), (PV.int .i64 a0_3)])) else (bif (a0_0 == (1 : Int)) then (((wc W n_slices_Index_int_int [(PV.slice 0 a1), (PV.int .i64 a0_1)])).bind (fun v1 => (c_i64 v1 (fun v2 => (bif (decide (v2 < (0 : Int))) then (some (PV.agg [(PV.int .i64 (2 : Int)), (PV.int .i64 (0 : Int))])) else (bif (decide (GE.ge v2 (((List.length a2) : Nat) : Int))) then (some (PV.agg [(PV.int .i64 (2 : Int)), (PV.int .i64 (0 : Int))])) else (J_expr_eval_1 a2 v2 (0 : Int) (0 : Int)))))))) else (L_expr_eval_2 a1 a2 a0_0 a0_1 a0_2 a0_3 a0_4 a0_4 (((List.length a0_4) : Nat) : Int) (0 : Int) (0 : Int) (0 : Int) []))) := go (by kernel_rfl) (by kernel_rfl) T210 (by kernel_rfl)
noncomputable def jF215 : Jn PV := (Classical.choose (exT fi215 (fin cfg fi215))).1
noncomputable def lF215 : Ln PV := (Classical.choose (exT fi215 (fin cfg fi215))).2
theorem T215 : Tied cfg W fi215 (fin cfg fi215) jF215 lF215 := Classical.choose_spec (exT fi215 (fin cfg fi215))
theorem e_val_fine (a0_0 : Int) (a0_1 : Int) : wc W n_val_fine [(PV.agg [(PV.int .i64 a0_0), (PV.int .i64 a0_1)])] =
  (((wc W n_val_May [(PV.agg [(PV.int .i64 a0_0), (PV.int .i64 a0_1)])])).bind (fun v1 => (c_b v1 (fun v2 => (bif (!v2) then (((wc W n_val_bad [])).bind (fun v3 => (c_g_i64_i64 v3 (fun v4 v5 => (some (PV.agg [(PV.int .i64 v4), (PV.int .i64 v5)])))))) else (some (PV.agg [(PV.int .i64 a0_0), (PV.int .i64 a0_1)]))))))) := go (by kernel_rfl) (by kernel_rfl) T215 (by kernel_rfl)
noncomputable def jF217 : Jn PV := (Classical.choose (exT fi217 (fin cfg fi217))).1
noncomputable def lF217 : Ln PV := (Classical.choose (exT fi217 (fin cfg fi217))).2
theorem T217 : Tied cfg W fi217 (fin cfg fi217) jF217 lF217 := Classical.choose_spec (exT fi217 (fin cfg fi217))
theorem e_val_odd (a0 : List PV) : wc W n_val_odd [(PV.slice 3 a0)] =
  (((wc W n_val_kind [(PV.int .i64 (2 : Int))])).bind (fun v1 => (((wc W n_val_some_api_Val [(PV.slice 3 a0), v1])).bind (fun v2 => (c_b v2 (fun v3 => (bif v3 then (((wc W n_val_bad [])).bind (fun v4 => (c_g_i64_i64 v4 (fun v5 v6 => (some (PV.tup [(PV.agg [(PV.int .i64 v5), (PV.int .i64 v6)]), (PV.bool true)])))))) else (((wc W n_val_kind [(PV.int .i64 (1 : Int))])).bind (fun v7 => (((wc W n_val_some_api_Val [(PV.slice 3 a0), v7])).bind (fun v8 => (c_b v8 (fun v9 => (bif v9 then (((wc W n_val_null [])).bind (fun v10 => (c_g_i64_i64 v10 (fun v11 v12 => (some (PV.tup [(PV.agg [(PV.int .i64 v11), (PV.int .i64 v12)]), (PV.bool true)])))))) else (some (PV.tup [(PV.agg [(PV.int .i64 (0 : Int)), (PV.int .i64 (0 : Int))]), (PV.bool false)])))))))))))))))) := go (by kernel_rfl) (by kernel_rfl) T217 (by kernel_rfl)
noncomputable def jF218 : Jn PV := (Classical.choose (exT fi218 (fin cfg fi218))).1
noncomputable def lF218 : Ln PV := (Classical.choose (exT fi218 (fin cfg fi218))).2
theorem T218 : Tied cfg W fi218 (fin cfg fi218) jF218 lF218 := Classical.choose_spec (exT fi218 (fin cfg fi218))
theorem e_val_of (a0 : Bool) : wc W n_val_of [(PV.bool a0)] =
  (bif a0 then (((wc W n_val_Of [(PV.int .i64 (1 : Int))])).bind (fun v1 => (c_g_i64_i64 v1 (fun v2 v3 => (some (PV.agg [(PV.int .i64 v2), (PV.int .i64 v3)])))))) else (((wc W n_val_Of [(PV.int .i64 (0 : Int))])).bind (fun v4 => (c_g_i64_i64 v4 (fun v5 v6 => (some (PV.agg [(PV.int .i64 v5), (PV.int .i64 v6)]))))))) := go (by kernel_rfl) (by kernel_rfl) T218 (by kernel_rfl)
noncomputable def jF222 : Jn PV := (Classical.choose (exT fi222 (fin cfg fi222))).1
noncomputable def lF222 : Ln PV := (Classical.choose (exT fi222 (fin cfg fi222))).2
theorem T222 : Tied cfg W fi222 (fin cfg fi222) jF222 lF222 := Classical.choose_spec (exT fi222 (fin cfg fi222))
noncomputable def L_roadbookref02_size_1 (i1 : Int) (i2 : Int) (i3 : Int) (i4 : Int) (i5 : Int) (l6 : List PV) (i7 : Int) (i8 : Int) : Option PV := lF222 [0, 1, 0, 1, 1] 0 (St.mk [(1, (AV.pv (PV.int .i64 i1))), (2, (AV.pv (PV.imm 6 (PV.agg [(PV.int .i64 i2), (PV.int .i64 i3), (PV.int .i64 i4), (PV.int .i64 i5), (PV.slice 6 l6)]) 0))), (5, (AV.pv (PV.int .i64 i7))), (6, (AV.pv (PV.int .i64 i8)))] [])
noncomputable def J_roadbookref02_size_2 (i9 : Int) (i10 : Int) (i11 : Int) (i12 : Int) (i13 : Int) (l14 : List PV) (i15 : Int) (i16 : Int) : Option PV := jF222 [1, 0, 0, 1, 0, 1, 1] (St.mk [(1, (AV.pv (PV.int .i64 i9))), (2, (AV.pv (PV.imm 6 (PV.agg [(PV.int .i64 i10), (PV.int .i64 i11), (PV.int .i64 i12), (PV.int .i64 i13), (PV.slice 6 l14)]) 0))), (5, (AV.pv (PV.int .i64 i15))), (6, (AV.pv (PV.int .i64 i16)))] [])
theorem L_roadbookref02_size_1_eq (i1 : Int) (i2 : Int) (i3 : Int) (i4 : Int) (i5 : Int) (l6 : List PV) (i7 : Int) (i8 : Int) : L_roadbookref02_size_1 i1 i2 i3 i4 i5 l6 i7 i8 =
  (bif (decide (i8 < (((List.length l6) : Nat) : Int))) then (bif (decide (i7 ≤ i1)) then (J_roadbookref02_size_2 i1 i2 i3 i4 i5 l6 i7 i8) else (some (PV.int .i64 i7))) else (some (PV.int .i64 i7))) := (T222.loop [1, 1, 0, 1, 0] 0 _ rfl).trans (by kernel_rfl)
theorem J_roadbookref02_size_2_eq (i9 : Int) (i10 : Int) (i11 : Int) (i12 : Int) (i13 : Int) (l14 : List PV) (i15 : Int) (i16 : Int) : J_roadbookref02_size_2 i9 i10 i11 i12 i13 l14 i15 i16 =
  (bif (decide ((0 : Int) ≤ i16)) then (((l14)[(Int.toNat i16)]?).bind (fun v17 => (c_g_i64_i64_i64_i64_s6 v17 (fun v18 v19 v20 v21 v22 => (((wc W n_roadbookref02_size [(PV.agg [(PV.int .i64 v18), (PV.int .i64 v19), (PV.int .i64 v20), (PV.int .i64 v21), (PV.slice 6 v22)]), (PV.int .i64 (IntKind.wrap .i64 (i9 - i15 : Int)))])).bind (fun v23 => (c_i64 v23 (fun v24 => (L_roadbookref02_size_1 i9 i10 i11 i12 i13 l14 (IntKind.wrap .i64 (i15 + v24 : Int)) (IntKind.wrap .i64 (i16 + (1 : Int) : Int))))))))))) else none) := (T222.join [1, 1, 0, 1, 0, 0, 1] _).trans (by kernel_rfl)
theorem e_roadbookref02_size (a0_0 : Int) (a0_1 : Int) (a0_2 : Int) (a0_3 : Int) (a0_4 : List PV) (a1 : Int) : wc W n_roadbookref02_size [(PV.agg [(PV.int .i64 a0_0), (PV.int .i64 a0_1), (PV.int .i64 a0_2), (PV.int .i64 a0_3), (PV.slice 6 a0_4)]), (PV.int .i64 a1)] =
  (L_roadbookref02_size_1 a1 a0_0 a0_1 a0_2 a0_3 a0_4 (1 : Int) (0 : Int)) := go (by kernel_rfl) (by kernel_rfl) T222 (by kernel_rfl)
noncomputable def jF223 : Jn PV := (Classical.choose (exT fi223 (fin cfg fi223))).1
noncomputable def lF223 : Ln PV := (Classical.choose (exT fi223 (fin cfg fi223))).2
theorem T223 : Tied cfg W fi223 (fin cfg fi223) jF223 lF223 := Classical.choose_spec (exT fi223 (fin cfg fi223))
theorem e_expr_ways (a0 : Int) : wc W n_expr_ways [(PV.int .i64 a0)] =
  (bif (a0 == (2 : Int)) then (((wc W n_expr_two [(PV.fn n_val_Add [] [])])).bind (fun v1 => (c_g_i64_i64_p v1 (fun v2 v3 v4 => (some (PV.agg [(PV.int .i64 v2), (PV.int .i64 v3), v4])))))) else (bif (a0 == (3 : Int)) then (((wc W n_expr_two [(PV.fn n_val_Sub [] [])])).bind (fun v5 => (c_g_i64_i64_p v5 (fun v6 v7 v8 => (some (PV.agg [(PV.int .i64 v6), (PV.int .i64 v7), v8])))))) else (bif (a0 == (4 : Int)) then (((wc W n_expr_two [(PV.fn n_val_Mul [] [])])).bind (fun v9 => (c_g_i64_i64_p v9 (fun v10 v11 v12 => (some (PV.agg [(PV.int .i64 v10), (PV.int .i64 v11), v12])))))) else (bif (a0 == (5 : Int)) then (((wc W n_expr_two [(PV.fn n_val_Div [] [])])).bind (fun v13 => (c_g_i64_i64_p v13 (fun v14 v15 v16 => (some (PV.agg [(PV.int .i64 v14), (PV.int .i64 v15), v16])))))) else (bif (a0 == (6 : Int)) then (((wc W n_expr_two [(PV.fn n_val_Eq [] [])])).bind (fun v17 => (c_g_i64_i64_p v17 (fun v18 v19 v20 => (some (PV.agg [(PV.int .i64 v18), (PV.int .i64 v19), v20])))))) else (bif (a0 == (7 : Int)) then (((wc W n_expr_two [(PV.fn n_val_Lt [] [])])).bind (fun v21 => (c_g_i64_i64_p v21 (fun v22 v23 v24 => (some (PV.agg [(PV.int .i64 v22), (PV.int .i64 v23), v24])))))) else (bif (a0 == (8 : Int)) then (some (PV.agg [(PV.int .i64 (0 : Int)), (PV.int .i64 (4 : Int)), (PV.fn n_expr_ways_1 [] [])])) else (bif (a0 == (9 : Int)) then (some (PV.agg [(PV.int .i64 (0 : Int)), (PV.int .i64 (4 : Int)), (PV.fn n_expr_ways_2 [] [])])) else (bif (a0 == (10 : Int)) then (some (PV.agg [(PV.int .i64 (1 : Int)), (PV.int .i64 (1 : Int)), (PV.fn n_expr_ways_3 [] [])])) else (some (PV.agg [(PV.int .i64 (0 : Int)), (PV.int .i64 (0 : Int)), PV.nilfn]))))))))))) := go (by kernel_rfl) (by kernel_rfl) T223 (by kernel_rfl)
noncomputable def jF246 : Jn PV := (Classical.choose (exT fi246 (fin cfg fi246))).1
noncomputable def lF246 : Ln PV := (Classical.choose (exT fi246 (fin cfg fi246))).2
theorem T246 : Tied cfg W fi246 (fin cfg fi246) jF246 lF246 := Classical.choose_spec (exT fi246 (fin cfg fi246))
theorem e_val_kind_1 (a0_0 : Int) (a0_1 : Int) (c0 : Int) : wc W n_val_kind_1 [(PV.agg [(PV.int .i64 a0_0), (PV.int .i64 a0_1)]), (PV.imm 0 (PV.int .i64 c0) 0)] =
  (((wc W n_val_fine [(PV.agg [(PV.int .i64 a0_0), (PV.int .i64 a0_1)])])).bind (fun v1 => (c_g_i64_i64 v1 (fun v2 v3 => (some (PV.bool (v2 == c0))))))) := go (by kernel_rfl) (by kernel_rfl) T246 (by kernel_rfl)
noncomputable def jF248 : Jn PV := (Classical.choose (exT fi248 (fin cfg fi248))).1
noncomputable def lF248 : Ln PV := (Classical.choose (exT fi248 (fin cfg fi248))).2
theorem T248 : Tied cfg W fi248 (fin cfg fi248) jF248 lF248 := Classical.choose_spec (exT fi248 (fin cfg fi248))
theorem e_data_Split (a0 : Int) : wc W n_data_Split [(PV.int .i64 a0)] =
  (((wc W n_data_in [(PV.int .i64 a0), (PV.int .i64 (0 : Int)), (PV.int .i64 (15 : Int))])).bind (fun v1 => (c_b v1 (fun v2 => (bif (!v2) then (some (PV.tup [(PV.int .i64 (0 : Int)), (PV.int .i64 (0 : Int)), (PV.bool false)])) else (some (PV.tup [(PV.int .i64 (IntKind.wrap .i64 (Int.tdiv a0 (4 : Int)))), (PV.int .i64 (Int.tmod a0 (4 : Int))), (PV.bool true)]))))))) := go (by kernel_rfl) (by kernel_rfl) T248 (by kernel_rfl)
noncomputable def jF254 : Jn PV := (Classical.choose (exT fi254 (fin cfg fi254))).1
noncomputable def lF254 : Ln PV := (Classical.choose (exT fi254 (fin cfg fi254))).2
theorem T254 : Tied cfg W fi254 (fin cfg fi254) jF254 lF254 := Classical.choose_spec (exT fi254 (fin cfg fi254))
theorem e_expr_two (a0 : PV) : wc W n_expr_two [a0] =
  (bif (PV.okSh 0 a0) then (some (PV.agg [(PV.int .i64 (2 : Int)), (PV.int .i64 (2 : Int)), (PV.fn n_expr_two_1 [] [(PV.imm 0 a0 0)])])) else none) := go (by kernel_rfl) (by kernel_rfl) T254 (by kernel_rfl)
noncomputable def jF255 : Jn PV := (Classical.choose (exT fi255 (fin cfg fi255))).1
noncomputable def lF255 : Ln PV := (Classical.choose (exT fi255 (fin cfg fi255))).2
theorem T255 : Tied cfg W fi255 (fin cfg fi255) jF255 lF255 := Classical.choose_spec (exT fi255 (fin cfg fi255))
theorem e_val_Add (a0_0 : Int) (a0_1 : Int) (a1_0 : Int) (a1_1 : Int) : wc W n_val_Add [(PV.agg [(PV.int .i64 a0_0), (PV.int .i64 a0_1)]), (PV.agg [(PV.int .i64 a1_0), (PV.int .i64 a1_1)])] =
  (((wc W n_val_reckon [(PV.agg [(PV.int .i64 a0_0), (PV.int .i64 a0_1)]), (PV.agg [(PV.int .i64 a1_0), (PV.int .i64 a1_1)]), (PV.fn n_val_Add_1 [] [])])).bind (fun v1 => (c_g_i64_i64 v1 (fun v2 v3 => (some (PV.agg [(PV.int .i64 v2), (PV.int .i64 v3)])))))) := go (by kernel_rfl) (by kernel_rfl) T255 (by kernel_rfl)
noncomputable def jF256 : Jn PV := (Classical.choose (exT fi256 (fin cfg fi256))).1
noncomputable def lF256 : Ln PV := (Classical.choose (exT fi256 (fin cfg fi256))).2
theorem T256 : Tied cfg W fi256 (fin cfg fi256) jF256 lF256 := Classical.choose_spec (exT fi256 (fin cfg fi256))
theorem e_val_Sub (a0_0 : Int) (a0_1 : Int) (a1_0 : Int) (a1_1 : Int) : wc W n_val_Sub [(PV.agg [(PV.int .i64 a0_0), (PV.int .i64 a0_1)]), (PV.agg [(PV.int .i64 a1_0), (PV.int .i64 a1_1)])] =
  (((wc W n_val_reckon [(PV.agg [(PV.int .i64 a0_0), (PV.int .i64 a0_1)]), (PV.agg [(PV.int .i64 a1_0), (PV.int .i64 a1_1)]), (PV.fn n_val_Sub_1 [] [])])).bind (fun v1 => (c_g_i64_i64 v1 (fun v2 v3 => (some (PV.agg [(PV.int .i64 v2), (PV.int .i64 v3)])))))) := go (by kernel_rfl) (by kernel_rfl) T256 (by kernel_rfl)
noncomputable def jF257 : Jn PV := (Classical.choose (exT fi257 (fin cfg fi257))).1
noncomputable def lF257 : Ln PV := (Classical.choose (exT fi257 (fin cfg fi257))).2
theorem T257 : Tied cfg W fi257 (fin cfg fi257) jF257 lF257 := Classical.choose_spec (exT fi257 (fin cfg fi257))
theorem e_val_Mul (a0_0 : Int) (a0_1 : Int) (a1_0 : Int) (a1_1 : Int) : wc W n_val_Mul [(PV.agg [(PV.int .i64 a0_0), (PV.int .i64 a0_1)]), (PV.agg [(PV.int .i64 a1_0), (PV.int .i64 a1_1)])] =
  (((wc W n_val_reckon [(PV.agg [(PV.int .i64 a0_0), (PV.int .i64 a0_1)]), (PV.agg [(PV.int .i64 a1_0), (PV.int .i64 a1_1)]), (PV.fn n_val_Mul_1 [] [])])).bind (fun v1 => (c_g_i64_i64 v1 (fun v2 v3 => (some (PV.agg [(PV.int .i64 v2), (PV.int .i64 v3)])))))) := go (by kernel_rfl) (by kernel_rfl) T257 (by kernel_rfl)
noncomputable def jF258 : Jn PV := (Classical.choose (exT fi258 (fin cfg fi258))).1
noncomputable def lF258 : Ln PV := (Classical.choose (exT fi258 (fin cfg fi258))).2
theorem T258 : Tied cfg W fi258 (fin cfg fi258) jF258 lF258 := Classical.choose_spec (exT fi258 (fin cfg fi258))
theorem e_val_Div (a0_0 : Int) (a0_1 : Int) (a1_0 : Int) (a1_1 : Int) : wc W n_val_Div [(PV.agg [(PV.int .i64 a0_0), (PV.int .i64 a0_1)]), (PV.agg [(PV.int .i64 a1_0), (PV.int .i64 a1_1)])] =
  (((wc W n_val_reckon [(PV.agg [(PV.int .i64 a0_0), (PV.int .i64 a0_1)]), (PV.agg [(PV.int .i64 a1_0), (PV.int .i64 a1_1)]), (PV.fn n_val_Div_1 [] [])])).bind (fun v1 => (c_g_i64_i64 v1 (fun v2 v3 => (some (PV.agg [(PV.int .i64 v2), (PV.int .i64 v3)])))))) := go (by kernel_rfl) (by kernel_rfl) T258 (by kernel_rfl)
noncomputable def jF259 : Jn PV := (Classical.choose (exT fi259 (fin cfg fi259))).1
noncomputable def lF259 : Ln PV := (Classical.choose (exT fi259 (fin cfg fi259))).2
theorem T259 : Tied cfg W fi259 (fin cfg fi259) jF259 lF259 := Classical.choose_spec (exT fi259 (fin cfg fi259))
theorem e_val_Lt (a0_0 : Int) (a0_1 : Int) (a1_0 : Int) (a1_1 : Int) : wc W n_val_Lt [(PV.agg [(PV.int .i64 a0_0), (PV.int .i64 a0_1)]), (PV.agg [(PV.int .i64 a1_0), (PV.int .i64 a1_1)])] =
  (((wc W n_val_odd [(PV.slice 3 [(PV.agg [(PV.int .i64 a0_0), (PV.int .i64 a0_1)]), (PV.agg [(PV.int .i64 a1_0), (PV.int .i64 a1_1)])])])).bind (fun v1 => (((PV.asTup v1)).bind (fun v2 => (((v2)[0]?).bind (fun v3 => (c_g_i64_i64 v3 (fun v4 v5 => (((PV.asTup v1)).bind (fun v6 => (((v6)[1]?).bind (fun v7 => (c_b v7 (fun v8 => (bif v8 then (some (PV.agg [(PV.int .i64 v4), (PV.int .i64 v5)])) else (((wc W n_val_of [(PV.bool (decide (a0_1 < a1_1)))])).bind (fun v9 => (c_g_i64_i64 v9 (fun v10 v11 => (some (PV.agg [(PV.int .i64 v10), (PV.int .i64 v11)]))))))))))))))))))))) := go (by kernel_rfl) (by kernel_rfl) T259 (by kernel_rfl)
noncomputable def jF260 : Jn PV := (Classical.choose (exT fi260 (fin cfg fi260))).1
noncomputable def lF260 : Ln PV := (Classical.choose (exT fi260 (fin cfg fi260))).2
theorem T260 : Tied cfg W fi260 (fin cfg fi260) jF260 lF260 := Classical.choose_spec (exT fi260 (fin cfg fi260))
theorem e_expr_ways_1 (a0 : List PV) : wc W n_expr_ways_1 [(PV.slice 3 a0)] =
  (((wc W n_val_And [(PV.slice 3 a0)])).bind (fun v1 => (c_g_i64_i64 v1 (fun v2 v3 => (some (PV.agg [(PV.int .i64 v2), (PV.int .i64 v3)])))))) := go (by kernel_rfl) (by kernel_rfl) T260 (by kernel_rfl)
noncomputable def jF261 : Jn PV := (Classical.choose (exT fi261 (fin cfg fi261))).1
noncomputable def lF261 : Ln PV := (Classical.choose (exT fi261 (fin cfg fi261))).2
theorem T261 : Tied cfg W fi261 (fin cfg fi261) jF261 lF261 := Classical.choose_spec (exT fi261 (fin cfg fi261))
theorem e_val_And (a0 : List PV) : wc W n_val_And [(PV.slice 3 a0)] =
  (((wc W n_val_Of [(PV.int .i64 (0 : Int))])).bind (fun v1 => (c_g_i64_i64 v1 (fun v2 v3 => (((wc W n_val_Of [(PV.int .i64 (1 : Int))])).bind (fun v4 => (c_g_i64_i64 v4 (fun v5 v6 => (((wc W n_val_three [(PV.slice 3 a0), (PV.fn n_val_isFalse [] []), (PV.agg [(PV.int .i64 v2), (PV.int .i64 v3)]), (PV.agg [(PV.int .i64 v5), (PV.int .i64 v6)])])).bind (fun v7 => (c_g_i64_i64 v7 (fun v8 v9 => (some (PV.agg [(PV.int .i64 v8), (PV.int .i64 v9)])))))))))))))) := go (by kernel_rfl) (by kernel_rfl) T261 (by kernel_rfl)
noncomputable def jF262 : Jn PV := (Classical.choose (exT fi262 (fin cfg fi262))).1
noncomputable def lF262 : Ln PV := (Classical.choose (exT fi262 (fin cfg fi262))).2
theorem T262 : Tied cfg W fi262 (fin cfg fi262) jF262 lF262 := Classical.choose_spec (exT fi262 (fin cfg fi262))
theorem e_expr_ways_2 (a0 : List PV) : wc W n_expr_ways_2 [(PV.slice 3 a0)] =
  (((wc W n_val_Or [(PV.slice 3 a0)])).bind (fun v1 => (c_g_i64_i64 v1 (fun v2 v3 => (some (PV.agg [(PV.int .i64 v2), (PV.int .i64 v3)])))))) := go (by kernel_rfl) (by kernel_rfl) T262 (by kernel_rfl)
noncomputable def jF263 : Jn PV := (Classical.choose (exT fi263 (fin cfg fi263))).1
noncomputable def lF263 : Ln PV := (Classical.choose (exT fi263 (fin cfg fi263))).2
theorem T263 : Tied cfg W fi263 (fin cfg fi263) jF263 lF263 := Classical.choose_spec (exT fi263 (fin cfg fi263))
theorem e_val_Or (a0 : List PV) : wc W n_val_Or [(PV.slice 3 a0)] =
  (((wc W n_val_Of [(PV.int .i64 (1 : Int))])).bind (fun v1 => (c_g_i64_i64 v1 (fun v2 v3 => (((wc W n_val_Of [(PV.int .i64 (0 : Int))])).bind (fun v4 => (c_g_i64_i64 v4 (fun v5 v6 => (((wc W n_val_three [(PV.slice 3 a0), (PV.fn n_val_True [] []), (PV.agg [(PV.int .i64 v2), (PV.int .i64 v3)]), (PV.agg [(PV.int .i64 v5), (PV.int .i64 v6)])])).bind (fun v7 => (c_g_i64_i64 v7 (fun v8 v9 => (some (PV.agg [(PV.int .i64 v8), (PV.int .i64 v9)])))))))))))))) := go (by kernel_rfl) (by kernel_rfl) T263 (by kernel_rfl)
noncomputable def jF264 : Jn PV := (Classical.choose (exT fi264 (fin cfg fi264))).1
noncomputable def lF264 : Ln PV := (Classical.choose (exT fi264 (fin cfg fi264))).2
theorem T264 : Tied cfg W fi264 (fin cfg fi264) jF264 lF264 := Classical.choose_spec (exT fi264 (fin cfg fi264))
theorem e_expr_ways_3 (a0 : List PV) : wc W n_expr_ways_3 [(PV.slice 3 a0)] =
  (((a0)[0]?).bind (fun v1 => (c_g_i64_i64 v1 (fun v2 v3 => (((wc W n_val_Not [(PV.agg [(PV.int .i64 v2), (PV.int .i64 v3)])])).bind (fun v4 => (c_g_i64_i64 v4 (fun v5 v6 => (some (PV.agg [(PV.int .i64 v5), (PV.int .i64 v6)])))))))))) := go (by kernel_rfl) (by kernel_rfl) T264 (by kernel_rfl)
noncomputable def jF265 : Jn PV := (Classical.choose (exT fi265 (fin cfg fi265))).1
noncomputable def lF265 : Ln PV := (Classical.choose (exT fi265 (fin cfg fi265))).2
theorem T265 : Tied cfg W fi265 (fin cfg fi265) jF265 lF265 := Classical.choose_spec (exT fi265 (fin cfg fi265))
theorem e_val_Not (a0_0 : Int) (a0_1 : Int) : wc W n_val_Not [(PV.agg [(PV.int .i64 a0_0), (PV.int .i64 a0_1)])] =
  (((wc W n_val_odd [(PV.slice 3 [(PV.agg [(PV.int .i64 a0_0), (PV.int .i64 a0_1)])])])).bind (fun v1 => (((PV.asTup v1)).bind (fun v2 => (((v2)[0]?).bind (fun v3 => (c_g_i64_i64 v3 (fun v4 v5 => (((PV.asTup v1)).bind (fun v6 => (((v6)[1]?).bind (fun v7 => (c_b v7 (fun v8 => (bif v8 then (some (PV.agg [(PV.int .i64 v4), (PV.int .i64 v5)])) else (((wc W n_val_of [(PV.bool (a0_1 == (0 : Int)))])).bind (fun v9 => (c_g_i64_i64 v9 (fun v10 v11 => (some (PV.agg [(PV.int .i64 v10), (PV.int .i64 v11)]))))))))))))))))))))) := go (by kernel_rfl) (by kernel_rfl) T265 (by kernel_rfl)
noncomputable def jF290 : Jn PV := (Classical.choose (exT fi290 (fin cfg fi290))).1
noncomputable def lF290 : Ln PV := (Classical.choose (exT fi290 (fin cfg fi290))).2
theorem T290 : Tied cfg W fi290 (fin cfg fi290) jF290 lF290 := Classical.choose_spec (exT fi290 (fin cfg fi290))
theorem e_expr_two_1 (a0 : List PV) (c0 : PV) : wc W n_expr_two_1 [(PV.slice 3 a0), (PV.imm 0 c0 0)] =
  (((a0)[0]?).bind (fun v1 => (c_g_i64_i64 v1 (fun v2 v3 => (((a0)[1]?).bind (fun v4 => (c_g_i64_i64 v4 (fun v5 v6 => (((PV.asFn c0)).bind (fun v7 => (((wc W (Prod.fst v7) (((Prod.fst (Prod.snd v7)) ++ [(PV.agg [(PV.int .i64 v2), (PV.int .i64 v3)]), (PV.agg [(PV.int .i64 v5), (PV.int .i64 v6)])]) ++ (Prod.snd (Prod.snd v7))))).bind (fun v8 => (c_g_i64_i64 v8 (fun v9 v10 => (some (PV.agg [(PV.int .i64 v9), (PV.int .i64 v10)])))))))))))))))) := go (by kernel_rfl) (by kernel_rfl) T290 (by kernel_rfl)
noncomputable def jF291 : Jn PV := (Classical.choose (exT fi291 (fin cfg fi291))).1
noncomputable def lF291 : Ln PV := (Classical.choose (exT fi291 (fin cfg fi291))).2
theorem T291 : Tied cfg W fi291 (fin cfg fi291) jF291 lF291 := Classical.choose_spec (exT fi291 (fin cfg fi291))
theorem e_val_reckon (a0_0 : Int) (a0_1 : Int) (a1_0 : Int) (a1_1 : Int) (a2 : PV) : wc W n_val_reckon [(PV.agg [(PV.int .i64 a0_0), (PV.int .i64 a0_1)]), (PV.agg [(PV.int .i64 a1_0), (PV.int .i64 a1_1)]), a2] =
  (((wc W n_val_odd [(PV.slice 3 [(PV.agg [(PV.int .i64 a0_0), (PV.int .i64 a0_1)]), (PV.agg [(PV.int .i64 a1_0), (PV.int .i64 a1_1)])])])).bind (fun v1 => (((PV.asTup v1)).bind (fun v2 => (((v2)[0]?).bind (fun v3 => (c_g_i64_i64 v3 (fun v4 v5 => (((PV.asTup v1)).bind (fun v6 => (((v6)[1]?).bind (fun v7 => (c_b v7 (fun v8 => (bif v8 then (some (PV.agg [(PV.int .i64 v4), (PV.int .i64 v5)])) else (((PV.asFn a2)).bind (fun v9 => (((wc W (Prod.fst v9) (((Prod.fst (Prod.snd v9)) ++ [(PV.int .i64 a0_1), (PV.int .i64 a1_1)]) ++ (Prod.snd (Prod.snd v9))))).bind (fun v10 => (((PV.asTup v10)).bind (fun v11 => (((v11)[0]?).bind (fun v12 => (c_i64 v12 (fun v13 => (((PV.asTup v10)).bind (fun v14 => (((v14)[1]?).bind (fun v15 => (c_b v15 (fun v16 => (bif (!v16) then (((wc W n_val_bad [])).bind (fun v17 => (c_g_i64_i64 v17 (fun v18 v19 => (some (PV.agg [(PV.int .i64 v18), (PV.int .i64 v19)])))))) else (((wc W n_val_Of [(PV.int .i64 v13)])).bind (fun v20 => (c_g_i64_i64 v20 (fun v21 v22 => (some (PV.agg [(PV.int .i64 v21), (PV.int .i64 v22)])))))))))))))))))))))))))))))))))))))) := go (by kernel_rfl) (by kernel_rfl) T291 (by kernel_rfl)
noncomputable def jF292 : Jn PV := (Classical.choose (exT fi292 (fin cfg fi292))).1
noncomputable def lF292 : Ln PV := (Classical.choose (exT fi292 (fin cfg fi292))).2
theorem T292 : Tied cfg W fi292 (fin cfg fi292) jF292 lF292 := Classical.choose_spec (exT fi292 (fin cfg fi292))
theorem e_val_Add_1 (a0 : Int) (a1 : Int) : wc W n_val_Add_1 [(PV.int .i64 a0), (PV.int .i64 a1)] =
  (some (PV.tup [(PV.int .i64 (IntKind.wrap .i64 (a0 + a1 : Int))), (PV.bool ((decide ((IntKind.wrap .i64 (a0 + a1 : Int)) < a0)) == (decide (a1 < (0 : Int)))))])) := go (by kernel_rfl) (by kernel_rfl) T292 (by kernel_rfl)
noncomputable def jF293 : Jn PV := (Classical.choose (exT fi293 (fin cfg fi293))).1
noncomputable def lF293 : Ln PV := (Classical.choose (exT fi293 (fin cfg fi293))).2
theorem T293 : Tied cfg W fi293 (fin cfg fi293) jF293 lF293 := Classical.choose_spec (exT fi293 (fin cfg fi293))
theorem e_val_Sub_1 (a0 : Int) (a1 : Int) : wc W n_val_Sub_1 [(PV.int .i64 a0), (PV.int .i64 a1)] =
  (some (PV.tup [(PV.int .i64 (IntKind.wrap .i64 (a0 - a1 : Int))), (PV.bool ((decide (GT.gt (IntKind.wrap .i64 (a0 - a1 : Int)) a0)) == (decide (a1 < (0 : Int)))))])) := go (by kernel_rfl) (by kernel_rfl) T293 (by kernel_rfl)
noncomputable def jF294 : Jn PV := (Classical.choose (exT fi294 (fin cfg fi294))).1
noncomputable def lF294 : Ln PV := (Classical.choose (exT fi294 (fin cfg fi294))).2
theorem T294 : Tied cfg W fi294 (fin cfg fi294) jF294 lF294 := Classical.choose_spec (exT fi294 (fin cfg fi294))
noncomputable def J_val_Mul_1_1 (i12 : Int) (i13 : Int) (i14 : Int) (i15 : Int) (i16 : Int) : Option PV := jF294 [1, 1, 1, 1] (St.mk [(0, (AV.pv (PV.int .i64 i12))), (1, (AV.pv (PV.int .i64 i13))), (6, (AV.pv (PV.int IntKind.u64 i14))), (7, (AV.pv (PV.int IntKind.u64 i15))), (8, (AV.pv (PV.int IntKind.u64 i16)))] [])
theorem J_val_Mul_1_1_eq (i12 : Int) (i13 : Int) (i14 : Int) (i15 : Int) (i16 : Int) : J_val_Mul_1_1 i12 i13 i14 i15 i16 =
  (bif (i14 == (0 : Int)) then (some (PV.tup [(PV.int .i64 (IntKind.wrap .i64 (i12 * i13 : Int))), (PV.bool (decide (i15 ≤ i16)))])) else (some (PV.tup [(PV.int .i64 (IntKind.wrap .i64 (i12 * i13 : Int))), (PV.bool false)]))) := (T294.join [1, 1, 1, 1] _).trans (by kernel_rfl)
theorem e_val_Mul_1 (a0 : Int) (a1 : Int) : wc W n_val_Mul_1 [(PV.int .i64 a0), (PV.int .i64 a1)] =
  (((wc W n_val_size [(PV.int .i64 a0)])).bind (fun v1 => (c_u64 v1 (fun v2 => (((wc W n_val_size [(PV.int .i64 a1)])).bind (fun v3 => (c_u64 v3 (fun v4 => (((wc W n_bits_Mul64 [(PV.int IntKind.u64 v2), (PV.int IntKind.u64 v4)])).bind (fun v5 => (((PV.asTup v5)).bind (fun v6 => (((v6)[0]?).bind (fun v7 => (c_u64 v7 (fun v8 => (((PV.asTup v5)).bind (fun v9 => (((v9)[1]?).bind (fun v10 => (c_u64 v10 (fun v11 => (bif (!((decide (a0 < (0 : Int))) == (decide (a1 < (0 : Int))))) then (J_val_Mul_1_1 a0 a1 v8 v11 (9223372036854775808 : Int)) else (J_val_Mul_1_1 a0 a1 v8 v11 (9223372036854775807 : Int))))))))))))))))))))))))) := go (by kernel_rfl) (by kernel_rfl) T294 (by kernel_rfl)
noncomputable def jF296 : Jn PV := (Classical.choose (exT fi296 (fin cfg fi296))).1
noncomputable def lF296 : Ln PV := (Classical.choose (exT fi296 (fin cfg fi296))).2
theorem T296 : Tied cfg W fi296 (fin cfg fi296) jF296 lF296 := Classical.choose_spec (exT fi296 (fin cfg fi296))
theorem e_val_size (a0 : Int) : wc W n_val_size [(PV.int .i64 a0)] =
  (bif (decide (a0 < (0 : Int))) then (some (PV.int IntKind.u64 (IntKind.wrap .u64 ((0 : Int) - (IntKind.wrap .u64 a0) : Int)))) else (some (PV.int IntKind.u64 (IntKind.wrap .u64 a0)))) := go (by kernel_rfl) (by kernel_rfl) T296 (by kernel_rfl)
noncomputable def jF297 : Jn PV := (Classical.choose (exT fi297 (fin cfg fi297))).1
noncomputable def lF297 : Ln PV := (Classical.choose (exT fi297 (fin cfg fi297))).2
theorem T297 : Tied cfg W fi297 (fin cfg fi297) jF297 lF297 := Classical.choose_spec (exT fi297 (fin cfg fi297))
noncomputable def J_val_Div_1_1 (i1 : Int) (i2 : Int) : Option PV := jF297 [1, 1] (St.mk [(0, (AV.pv (PV.int .i64 i1))), (1, (AV.pv (PV.int .i64 i2)))] [])
theorem J_val_Div_1_1_eq (i1 : Int) (i2 : Int) : J_val_Div_1_1 i1 i2 =
  (((bif (i2 == (0 : Int)) then none else (some (PV.int .i64 (IntKind.wrap .i64 (Int.tdiv i1 i2)))))).bind (fun v3 => (c_i64 v3 (fun v4 => (some (PV.tup [(PV.int .i64 v4), (PV.bool true)])))))) := (T297.join [1, 1] _).trans (by kernel_rfl)
theorem e_val_Div_1 (a0 : Int) (a1 : Int) : wc W n_val_Div_1 [(PV.int .i64 a0), (PV.int .i64 a1)] =
  (bif (a1 == (0 : Int)) then (some (PV.tup [(PV.int .i64 (0 : Int)), (PV.bool false)])) else (bif (a0 == (-9223372036854775808 : Int)) then (bif (a1 == (-1 : Int)) then (some (PV.tup [(PV.int .i64 (0 : Int)), (PV.bool false)])) else (J_val_Div_1_1 a0 a1)) else (J_val_Div_1_1 a0 a1))) := go (by kernel_rfl) (by kernel_rfl) T297 (by kernel_rfl)
noncomputable def jF298 : Jn PV := (Classical.choose (exT fi298 (fin cfg fi298))).1
noncomputable def lF298 : Ln PV := (Classical.choose (exT fi298 (fin cfg fi298))).2
theorem T298 : Tied cfg W fi298 (fin cfg fi298) jF298 lF298 := Classical.choose_spec (exT fi298 (fin cfg fi298))
theorem e_val_three (a0 : List PV) (a1 : PV) (a2_0 : Int) (a2_1 : Int) (a3_0 : Int) (a3_1 : Int) : wc W n_val_three [(PV.slice 3 a0), a1, (PV.agg [(PV.int .i64 a2_0), (PV.int .i64 a2_1)]), (PV.agg [(PV.int .i64 a3_0), (PV.int .i64 a3_1)])] =
  (((wc W n_val_some_api_Val [(PV.slice 3 a0), a1])).bind (fun v1 => (c_b v1 (fun v2 => (bif v2 then (some (PV.agg [(PV.int .i64 a2_0), (PV.int .i64 a2_1)])) else (((wc W n_val_odd [(PV.slice 3 a0)])).bind (fun v3 => (((PV.asTup v3)).bind (fun v4 => (((v4)[0]?).bind (fun v5 => (c_g_i64_i64 v5 (fun v6 v7 => (((PV.asTup v3)).bind (fun v8 => (((v8)[1]?).bind (fun v9 => (c_b v9 (fun v10 => (bif v10 then (some (PV.agg [(PV.int .i64 v6), (PV.int .i64 v7)])) else (some (PV.agg [(PV.int .i64 a3_0), (PV.int .i64 a3_1)])))))))))))))))))))))) := go (by kernel_rfl) (by kernel_rfl) T298 (by kernel_rfl)
noncomputable def jF299 : Jn PV := (Classical.choose (exT fi299 (fin cfg fi299))).1
noncomputable def lF299 : Ln PV := (Classical.choose (exT fi299 (fin cfg fi299))).2
theorem T299 : Tied cfg W fi299 (fin cfg fi299) jF299 lF299 := Classical.choose_spec (exT fi299 (fin cfg fi299))
theorem e_val_isFalse (a0_0 : Int) (a0_1 : Int) : wc W n_val_isFalse [(PV.agg [(PV.int .i64 a0_0), (PV.int .i64 a0_1)])] =
  (((wc W n_val_Of [(PV.int .i64 (0 : Int))])).bind (fun v1 => (c_g_i64_i64 v1 (fun v2 v3 => (((((bif (a0_0 == v2) then (bif (a0_1 == v3) then (some true) else (some false)) else (some false))).bind (fun v4 => (some (PV.bool v4))))).bind (fun v5 => (c_b v5 (fun v6 => (some (PV.bool v6)))))))))) := go (by kernel_rfl) (by kernel_rfl) T299 (by kernel_rfl)
end Go.Cf

namespace Go.Cf
open Go Go.Ab
set_option linter.unusedVariables false
set_option linter.unusedSimpArgs false
structure Val where
  K : Int
  N : Int
  deriving DecidableEq
def Val.pv (v : Val) : PV := .agg [.int .i64 v.K, .int .i64 v.N]
@[simp] theorem Val.fold (v : Val) : PV.agg [.int .i64 v.K, .int .i64 v.N] = v.pv := rfl
@[simp] theorem Val.c_mk (v : Val) {R : Type} (f : Int → Int → Option R) : c_g_i64_i64 v.pv f = f v.K v.N := rfl
structure Def where
  Cols : Int
  Rows : Int
  deriving DecidableEq
def Def.pv (d : Def) : PV := .agg [.int .i64 d.Cols, .int .i64 d.Rows]
@[simp] theorem Def.fold (v : Def) : PV.agg [.int .i64 v.Cols, .int .i64 v.Rows] = v.pv := rfl
@[simp] theorem Def.c_mk (v : Def) {R : Type} (f : Int → Int → Option R) : c_g_i64_i64 v.pv f = f v.Cols v.Rows := rfl
@[simp] theorem Def.load0 (v : Def) : PV.load 3 v.pv 0 0 = some (.int .i64 v.Cols) := rfl
@[simp] theorem Def.load1 (v : Def) : PV.load 3 v.pv 1 0 = some (.int .i64 v.Rows) := rfl
def rowp (r : List Val) : PV := .slice 3 (r.map Val.pv)
def tabp (t : List (List Val)) : PV := .slice 0 (t.map rowp)
@[simp] theorem c_rowp (r : List Val) {R : Type} (f : List PV → Option R) : c_s3 (rowp r) f = f (r.map Val.pv) := rfl
@[simp] theorem c_tabp (t : List (List Val)) {R : Type} (f : List PV → Option R) : c_s0 (tabp t) f = f (t.map rowp) := rfl
@[simp] theorem rowp_fold (r : List Val) : PV.slice 3 (r.map Val.pv) = rowp r := rfl
@[simp] theorem tabp_fold (t : List (List Val)) : PV.slice 0 (t.map rowp) = tabp t := rfl
def intp (n : Int) : PV := .int .i64 n
@[simp] theorem c_intp (n : Int) {R : Type} (f : Int → Option R) : c_i64 (intp n) f = f n := rfl
def intsp (l : List Int) : PV := .slice 0 (l.map intp)
@[simp] theorem intsp_fold (l : List Int) : PV.slice 0 (l.map intp) = intsp l := rfl
@[simp] theorem c_intsp (l : List Int) {R : Type} (f : List PV → Option R) : c_s0 (intsp l) f = f (l.map intp) := rfl
def idxI {α : Type} (l : List α) (f : α → Bool) : Int := match l.findIdx? f with | some i => (i : Int) | none => -1
theorem idxI_any {α : Type} (l : List α) (f : α → Bool) : decide (idxI l f ≥ 0) = l.any f := by
  unfold idxI
  cases h : l.findIdx? f with
  | some i =>
    have := List.findIdx?_eq_some_iff_getElem.1 h
    obtain ⟨hi, h1, _⟩ := this
    have : l.any f = true := List.any_eq_true.2 ⟨_, List.getElem_mem hi, h1⟩
    rw [this]; simp
  | none =>
    have := List.findIdx?_eq_none_iff.1 h
    have : l.any f = false := by
      rw [Bool.eq_false_iff]
      intro e
      obtain ⟨x, hx, e⟩ := List.any_eq_true.1 e
      rw [this x hx] at e; cases e
    rw [this]; rfl
theorem loop_idx {R α : Type} (L : Int → Option R) (l : List α) (f : α → Bool) (g : Int → Option R) (hs : ∀ (i : Nat) (h : i < l.length), L (i : Int) = bif f l[i] then g (i : Int) else L ((i : Int) + 1)) (he : L (l.length : Int) = g (-1)) :
    L 0 = g (idxI l f) := by
  have : ∀ k i : Nat, i + k = l.length → L (i : Int) = g (match (l.drop i).findIdx? f with | some j => ((i + j : Nat) : Int) | none => -1) := by
    intro k
    induction k with
    | zero =>
      intro i h; simp at h; subst h
      rw [he, List.drop_of_length_le (Nat.le_refl _)]; rfl
    | succ k ih =>
      intro i h
      have hi : i < l.length := by omega
      rw [hs i hi, List.drop_eq_getElem_cons hi, List.findIdx?_cons]
      cases f l[i] with
      | true => simp
      | false =>
        simp only [cond_false, Bool.false_eq_true, if_false]
        rw [show ((i : Int) + 1) = ((i + 1 : Nat) : Int) by omega, ih (i + 1) (by omega)]
        cases (List.drop (i + 1) l).findIdx? f with
        | none => rfl
        | some j =>
          simp only [Option.map_some]
          congr 1; omega
  have h0 := this l.length 0 (by omega)
  simp only [Nat.zero_add, List.drop_zero] at h0
  exact h0
theorem w_idxVal (l : List Val) (g : Nat) (fs cs : List PV) (f : Val → Bool) (hl : l.length ≤ 9223372036854775807) (hf : ∀ x ∈ l, wc W g (fs ++ [x.pv] ++ cs) = some (.bool (f x))) :
    wc W n_slices_IndexFunc_api_Val_api_Val_b1f6 [rowp l, .fn g fs cs] = some (.int .i64 (idxI l f)) := by
  unfold rowp
  rw [e_slices_IndexFunc_api_Val_api_Val_b1f6, List.length_map]
  refine loop_idx (fun i => L_slices_IndexFunc_api_Val_api_Val_b1f6_1 (l.map Val.pv) (.fn g fs cs) l.length i) l f (fun n => some (.int .i64 n)) (fun i hi => ?_) ?_
  · rw [L_slices_IndexFunc_api_Val_api_Val_b1f6_1_eq]
    simp only [lt_len hi, nat_le, cond_true, Int.toNat_natCast, List.getElem?_map, List.getElem?_eq_getElem hi, Option.map_some, Option.bind_some, Val.c_mk, asFn_mk, Val.fold]
    rw [hf _ (List.getElem_mem hi), wrap64 (by omega) (by omega)]
    simp only [Option.bind_some, c_b_mk]
  · rw [L_slices_IndexFunc_api_Val_api_Val_b1f6_1_eq]; simp
theorem w_anyVal (l : List Val) (g : Nat) (fs cs : List PV) (f : Val → Bool) (hl : l.length ≤ 9223372036854775807) (hf : ∀ x ∈ l, wc W g (fs ++ [x.pv] ++ cs) = some (.bool (f x))) :
    wc W n_slices_ContainsFunc_api_Val_api_Val_c5fc [rowp l, .fn g fs cs] = some (.bool (l.any f)) := by
  have h := e_slices_ContainsFunc_api_Val_api_Val_c5fc (l.map Val.pv) (.fn g fs cs)
  rw [rowp_fold] at h
  rw [h, w_idxVal l g fs cs f hl hf]
  simp [← idxI_any]
def mayV (v : Val) : Bool := decide (v.K = 0) || ((decide (v.K = 1) || decide (v.K = 2)) && decide (v.N = 0))
theorem w_val_May (v : Val) : wc W n_val_May [v.pv] = some (.bool (mayV v)) := by
  have h := e_val_May v.K v.N
  rw [Val.fold] at h
  rw [h]
  unfold mayV
  by_cases h0 : v.K = 0
  · rw [h0]; simp
  · by_cases h1 : v.K = 1
    · rw [h1]; simp [BEq.beq]
    · by_cases h2 : v.K = 2
      · rw [h2]; simp [BEq.beq]
      · by_cases a : v.K ≥ 0
        · rw [decide_eq_true a, decide_eq_false (show ¬ v.K < 3 by omega)]; simp [h0, h1, h2]
        · rw [decide_eq_false a]; simp [h0, h1, h2]
end Go.Cf

namespace Go.Cf
open Go Go.Ab
set_option linter.unusedVariables false
set_option linter.unusedSimpArgs false
def badV : Val := ⟨2, 0⟩
def nullV : Val := ⟨1, 0⟩
def fineV (v : Val) : Val := bif mayV v then v else badV
def oddV (l : List Val) : Option Val := bif l.any (fun v => (fineV v).K == 2) then some badV else bif l.any (fun v => (fineV v).K == 1) then some nullV else none
def oneV (b : Bool) : Val := ⟨0, bif b then 1 else 0⟩
def reckV (a b : Val) (f : Int → Int → Option Int) : Val := match oddV [a, b] with | some v => v | none => match f a.N b.N with | some n => ⟨0, n⟩ | none => badV
def inI (n : Int) : Bool := decide (-9223372036854775808 ≤ n) && decide (n ≤ 9223372036854775807)
def addO (x y : Int) : Option Int := bif inI (x + y) then some (x + y) else none
def subO (x y : Int) : Option Int := bif inI (x - y) then some (x - y) else none
def mulO (x y : Int) : Option Int := bif inI (x * y) then some (x * y) else none
def divO (x y : Int) : Option Int := bif y == 0 || (x == -9223372036854775808 && y == -1) then none else some (Int.tdiv x y)
def eqV (a b : Val) : Val := match oddV [a, b] with | some v => v | none => oneV (decide (a = b))
def ltV (a b : Val) : Val := match oddV [a, b] with | some v => v | none => oneV (decide (a.N < b.N))
def trueV (v : Val) : Bool := v.K == 0 && v.N != 0
def falseV (v : Val) : Bool := v.K == 0 && v.N == 0
def andV (l : List Val) : Val := bif l.any falseV then ⟨0, 0⟩ else match oddV l with | some v => v | none => ⟨0, 1⟩
def orV (l : List Val) : Val := bif l.any trueV then ⟨0, 1⟩ else match oddV l with | some v => v | none => ⟨0, 0⟩
def notV (v : Val) : Val := match oddV [v] with | some w => w | none => oneV (v.N == 0)
theorem w_bad : wc W n_val_bad [] = some badV.pv := e_val_bad
theorem w_null : wc W n_val_null [] = some nullV.pv := e_val_null
theorem w_Of (n : Int) : wc W n_val_Of [.int .i64 n] = some (Val.mk 0 n).pv := e_val_Of n
theorem w_of (b : Bool) : wc W n_val_of [.bool b] = some (oneV b).pv := by
  rw [e_val_of, w_Of, w_Of]
  cases b <;> rfl
theorem w_fine (v : Val) : wc W n_val_fine [v.pv] = some (fineV v).pv := by
  have h := e_val_fine v.K v.N
  rw [Val.fold] at h
  rw [h, w_val_May, w_bad]
  unfold fineV
  cases mayV v <;> rfl
theorem w_kind1 (v : Val) (k : Int) : wc W n_val_kind_1 [v.pv, .imm 0 (.int .i64 k) 0] = some (.bool ((fineV v).K == k)) := by
  have h := e_val_kind_1 v.K v.N k
  rw [Val.fold] at h
  rw [h, w_fine]; rfl
theorem w_kind (k : Int) : wc W n_val_kind [.int .i64 k] = some (.fn n_val_kind_1 [] [.imm 0 (.int .i64 k) 0]) := e_val_kind k
theorem w_someV (l : List Val) (g : Nat) (fs cs : List PV) (f : Val → Bool) (hl : l.length ≤ 9223372036854775807) (hf : ∀ x ∈ l, wc W g (fs ++ [x.pv] ++ cs) = some (.bool (f x))) :
    wc W n_val_some_api_Val [rowp l, .fn g fs cs] = some (.bool (l.any f)) := by
  have h := e_val_some_api_Val (l.map Val.pv) (.fn g fs cs)
  rw [rowp_fold] at h
  rw [h, w_anyVal l g fs cs f hl hf]; rfl
def oddP (l : List Val) : PV := match oddV l with | some v => .tup [v.pv, .bool true] | none => .tup [(Val.mk 0 0).pv, .bool false]
theorem w_odd (l : List Val) (hl : l.length ≤ 9223372036854775807) : wc W n_val_odd [rowp l] = some (oddP l) := by
  have h := e_val_odd (l.map Val.pv)
  rw [rowp_fold] at h
  rw [h]
  simp only [w_kind, Option.bind_some, w_someV l n_val_kind_1 [] [.imm 0 (.int .i64 2) 0] (fun v => (fineV v).K == 2) hl (fun x _ => w_kind1 x 2), w_someV l n_val_kind_1 [] [.imm 0 (.int .i64 1) 0] (fun v => (fineV v).K == 1) hl (fun x _ => w_kind1 x 1), c_b_mk, w_bad, w_null]
  unfold oddP oddV
  cases l.any (fun v => (fineV v).K == 2) <;> cases l.any (fun v => (fineV v).K == 1) <;> rfl
theorem row2 (a b : Val) : PV.slice 3 [a.pv, b.pv] = rowp [a, b] := rfl
theorem row1 (a : Val) : PV.slice 3 [a.pv] = rowp [a] := rfl
theorem w_reckon (a b : Val) (g : Nat) (f : Int → Int → Option Int) (hg : ∃ n, wc W g [.int .i64 a.N, .int .i64 b.N] = some (.tup [.int .i64 ((f a.N b.N).getD n), .bool (f a.N b.N).isSome])) :
    wc W n_val_reckon [a.pv, b.pv, .fn g [] []] = some (reckV a b f).pv := by
  have h := e_val_reckon a.K a.N b.K b.N (.fn g [] [])
  simp only [Val.fold, row2] at h
  obtain ⟨n, hg⟩ := hg
  rw [h, w_odd [a, b] (by simp)]
  unfold reckV oddP
  cases oddV [a, b] with
  | some v => simp
  | none =>
    simp only [Option.bind_some, asTup_mk, List.getElem?_cons_zero, List.getElem?_cons_succ, Val.c_mk, c_b_mk, cond_false, asFn_mk, List.nil_append, List.append_nil, hg, c_i64_mk, w_bad, w_Of, Val.fold]
    cases f a.N b.N <;> rfl
theorem wrapI64 (n : Int) : IntKind.wrap .i64 n = (n + 9223372036854775808) % 18446744073709551616 - 9223372036854775808 := by
  simp only [IntKind.wrap, IntKind.bits, IntKind.signed]
  simp
  omega
theorem w_Add (a b : Val) (ha : I64 a.N) (hb : I64 b.N) : wc W n_val_Add [a.pv, b.pv] = some (reckV a b addO).pv := by
  have h := e_val_Add a.K a.N b.K b.N
  simp only [Val.fold] at h
  rw [h, w_reckon a b n_val_Add_1 addO ⟨IntKind.wrap .i64 (a.N + b.N), ?_⟩]
  · simp
  · rw [e_val_Add_1]
    obtain ⟨a1, a2⟩ := ha
    obtain ⟨b1, b2⟩ := hb
    unfold addO inI
    by_cases hi : -9223372036854775808 ≤ a.N + b.N ∧ a.N + b.N ≤ 9223372036854775807
    · rw [decide_eq_true hi.1, decide_eq_true hi.2, wrap64 hi.1 hi.2]
      have : (decide (a.N + b.N < a.N) == decide (b.N < 0)) = true := by
        rw [beq_iff_eq, decide_eq_decide]; omega
      rw [this]; rfl
    · have hb' : (decide (-9223372036854775808 ≤ a.N + b.N) && decide (a.N + b.N ≤ 9223372036854775807)) = false := by rw [← Bool.decide_and]; exact decide_eq_false hi
      rw [hb']
      have : (decide (IntKind.wrap .i64 (a.N + b.N) < a.N) == decide (b.N < 0)) = false := by
        rw [beq_eq_false_iff_ne, ne_eq, decide_eq_decide, wrapI64]; omega
      rw [this]; rfl
theorem w_Sub (a b : Val) (ha : I64 a.N) (hb : I64 b.N) : wc W n_val_Sub [a.pv, b.pv] = some (reckV a b subO).pv := by
  have h := e_val_Sub a.K a.N b.K b.N
  simp only [Val.fold] at h
  rw [h, w_reckon a b n_val_Sub_1 subO ⟨IntKind.wrap .i64 (a.N - b.N), ?_⟩]
  · simp
  · rw [e_val_Sub_1]
    obtain ⟨a1, a2⟩ := ha
    obtain ⟨b1, b2⟩ := hb
    unfold subO inI
    by_cases hi : -9223372036854775808 ≤ a.N - b.N ∧ a.N - b.N ≤ 9223372036854775807
    · rw [decide_eq_true hi.1, decide_eq_true hi.2, wrap64 hi.1 hi.2]
      have : (decide (a.N - b.N > a.N) == decide (b.N < 0)) = true := by
        rw [beq_iff_eq, decide_eq_decide]; omega
      rw [this]; rfl
    · have hb' : (decide (-9223372036854775808 ≤ a.N - b.N) && decide (a.N - b.N ≤ 9223372036854775807)) = false := by rw [← Bool.decide_and]; exact decide_eq_false hi
      rw [hb']
      have : (decide (IntKind.wrap .i64 (a.N - b.N) > a.N) == decide (b.N < 0)) = false := by
        rw [beq_eq_false_iff_ne, ne_eq, decide_eq_decide, wrapI64]; omega
      rw [this]; rfl
theorem w_Div (a b : Val) (ha : I64 a.N) (hb : I64 b.N) : wc W n_val_Div [a.pv, b.pv] = some (reckV a b divO).pv := by
  have h := e_val_Div a.K a.N b.K b.N
  simp only [Val.fold] at h
  rw [h, w_reckon a b n_val_Div_1 divO ⟨0, ?_⟩]
  · simp
  · rw [e_val_Div_1]
    unfold divO
    cases h0 : (b.N == 0) with
    | true => rfl
    | false =>
      have hJ : (a.N == -9223372036854775808 && b.N == -1) = false → J_val_Div_1_1 a.N b.N = some (.tup [.int .i64 (Int.tdiv a.N b.N), .bool true]) := fun hn => by
        rw [J_val_Div_1_1_eq, h0]
        obtain ⟨a1, a2⟩ := ha
        have hb0 : b.N ≠ 0 := by simpa using h0
        have hr : -9223372036854775808 ≤ Int.tdiv a.N b.N ∧ Int.tdiv a.N b.N ≤ 9223372036854775807 := by
          have h1 : (Int.tdiv a.N b.N).natAbs ≤ a.N.natAbs := by
            rw [Int.natAbs_tdiv]
            exact Nat.div_le_self _ _
          by_cases hm : Int.tdiv a.N b.N = 9223372036854775808
          · exfalso
            have hA : a.N = -9223372036854775808 := by omega
            rw [hA] at hm hn
            have hb1 : b.N ≠ -1 := by intro e; rw [e] at hn; cases hn
            have h2 : (Int.tdiv (-9223372036854775808) b.N).natAbs = 9223372036854775808 / b.N.natAbs := by rw [Int.natAbs_tdiv]; rfl
            rw [hm] at h2
            have h3 : b.N.natAbs = 1 := by
              rcases Nat.lt_or_ge b.N.natAbs 2 with h | h
              · omega
              · have : 9223372036854775808 / b.N.natAbs ≤ 9223372036854775808 / 2 := Nat.div_le_div_left h (by omega)
                have h4 : (9223372036854775808 : Int).natAbs = 9223372036854775808 := rfl
                omega
            have hb2 : b.N = 1 := by omega
            rw [hb2] at hm
            simp at hm
          · omega
        rw [wrap64 hr.1 hr.2]; rfl
      simp only [cond_false, Bool.false_or]
      cases h1 : (a.N == -9223372036854775808) with
      | false =>
        rw [h1] at hJ
        simp only [cond_false, Bool.false_and, hJ (by rfl)]; rfl
      | true =>
        rw [h1] at hJ
        cases h2 : (b.N == -1) with
        | true => rfl
        | false =>
          rw [h2] at hJ
          simp only [cond_true, cond_false, Bool.and_false, hJ (by rfl)]; rfl
theorem w_Eq (a b : Val) : wc W n_val_Eq [a.pv, b.pv] = some (eqV a b).pv := by
  have h := e_val_Eq a.K a.N b.K b.N
  simp only [Val.fold, row2] at h
  rw [h, w_odd [a, b] (by simp)]
  unfold eqV oddP
  cases oddV [a, b] with
  | some v => simp
  | none =>
    simp only [Option.bind_some, asTup_mk, List.getElem?_cons_zero, List.getElem?_cons_succ, Val.c_mk, c_b_mk, cond_false]
    have key : ((bif (a.K == b.K) then (bif (a.N == b.N) then (some true) else (some false)) else (some false)) : Option Bool) = some (decide (a = b)) := by
      cases a; cases b
      simp only [Val.mk.injEq]
      rw [Bool.decide_and]
      rename_i k n k' n'
      show _ = some ((k == k') && (n == n'))
      cases k == k' <;> cases n == n' <;> rfl
    rw [key]
    simp only [Option.bind_some, c_b_mk, w_of, Val.c_mk, Val.fold]
theorem w_Lt (a b : Val) : wc W n_val_Lt [a.pv, b.pv] = some (ltV a b).pv := by
  have h := e_val_Lt a.K a.N b.K b.N
  simp only [Val.fold, row2] at h
  rw [h, w_odd [a, b] (by simp)]
  unfold ltV oddP
  cases oddV [a, b] with
  | some v => simp
  | none => simp only [Option.bind_some, asTup_mk, List.getElem?_cons_zero, List.getElem?_cons_succ, Val.c_mk, c_b_mk, cond_false, w_of, Val.fold]
theorem w_Not (a : Val) : wc W n_val_Not [a.pv] = some (notV a).pv := by
  have h := e_val_Not a.K a.N
  simp only [Val.fold, row1] at h
  rw [h, w_odd [a] (by simp)]
  unfold notV oddP
  cases oddV [a] with
  | some v => simp
  | none => simp only [Option.bind_some, asTup_mk, List.getElem?_cons_zero, List.getElem?_cons_succ, Val.c_mk, c_b_mk, cond_false, w_of, Val.fold]
theorem w_True (v : Val) : wc W n_val_True [v.pv] = some (.bool (trueV v)) := by
  have h := e_val_True v.K v.N
  rw [Val.fold] at h
  rw [h]
  unfold trueV
  cases v.K == 0 <;> rfl
theorem w_isFalse (v : Val) : wc W n_val_isFalse [v.pv] = some (.bool (falseV v)) := by
  have h := e_val_isFalse v.K v.N
  rw [Val.fold] at h
  rw [h, w_Of]
  unfold falseV
  simp only [Option.bind_some, Val.c_mk]
  cases v.K == 0 <;> cases v.N == 0 <;> rfl
theorem w_three (l : List Val) (g : Nat) (f : Val → Bool) (x y : Val) (hl : l.length ≤ 9223372036854775807) (hf : ∀ v ∈ l, wc W g [v.pv] = some (.bool (f v))) :
    wc W n_val_three [rowp l, .fn g [] [], x.pv, y.pv] = some (bif l.any f then x else match oddV l with | some v => v | none => y).pv := by
  have h := e_val_three (l.map Val.pv) (.fn g [] []) x.K x.N y.K y.N
  simp only [Val.fold, rowp_fold] at h
  rw [h, w_someV l g [] [] f hl hf, w_odd l hl]
  unfold oddP
  cases l.any f with
  | true => rfl
  | false => cases oddV l <;> simp
theorem w_And (l : List Val) (hl : l.length ≤ 9223372036854775807) : wc W n_val_And [rowp l] = some (andV l).pv := by
  have h := e_val_And (l.map Val.pv)
  rw [rowp_fold] at h
  rw [h, w_Of, w_Of]
  simp only [Option.bind_some, Val.c_mk, Val.fold, show PV.agg [PV.int .i64 0, PV.int .i64 0] = (Val.mk 0 0).pv from rfl, show PV.agg [PV.int .i64 0, PV.int .i64 1] = (Val.mk 0 1).pv from rfl, w_three l n_val_isFalse falseV ⟨0, 0⟩ ⟨0, 1⟩ hl (fun v _ => w_isFalse v)]
  rfl
theorem w_Or (l : List Val) (hl : l.length ≤ 9223372036854775807) : wc W n_val_Or [rowp l] = some (orV l).pv := by
  have h := e_val_Or (l.map Val.pv)
  rw [rowp_fold] at h
  rw [h, w_Of, w_Of]
  simp only [Option.bind_some, Val.c_mk, Val.fold, show PV.agg [PV.int .i64 0, PV.int .i64 0] = (Val.mk 0 0).pv from rfl, show PV.agg [PV.int .i64 0, PV.int .i64 1] = (Val.mk 0 1).pv from rfl, w_three l n_val_True trueV ⟨0, 1⟩ ⟨0, 0⟩ hl (fun v _ => w_True v)]
  rfl
end Go.Cf

namespace Go.Cf
open Go Go.Ab
set_option linter.unusedVariables false
set_option linter.unusedSimpArgs false
theorem w_size (n : Int) (h : I64 n) : wc W n_val_size [.int .i64 n] = some (.int .u64 (n.natAbs : Int)) := by
  obtain ⟨h1, h2⟩ := h
  have hw : ∀ m : Int, IntKind.wrap .u64 m = m % 18446744073709551616 := fun m => by simp [IntKind.wrap, IntKind.bits, IntKind.signed]
  rw [e_val_size, hw, hw]
  by_cases hn : n < 0
  · rw [decide_eq_true hn]
    simp only [cond_true]
    congr 2
    omega
  · rw [decide_eq_false hn]
    simp only [cond_false]
    congr 2
    omega
theorem natAbs_mul_le {a b : Int} (ha : I64 a) (hb : I64 b) : a.natAbs * b.natAbs ≤ 9223372036854775808 * 9223372036854775808 := Nat.mul_le_mul (by obtain ⟨_, _⟩ := ha; omega) (by obtain ⟨_, _⟩ := hb; omega)
theorem mul_split {m : Nat} (hm : m ≤ 9223372036854775808 * 9223372036854775808) (k : Nat) (hk : k < 18446744073709551616) :
    (((m / 18446744073709551616 : Nat) : Int) == 0 && decide (((m % 18446744073709551616 : Nat) : Int) ≤ (k : Int))) = decide (m ≤ k) := by
  by_cases h : m ≤ k
  · rw [decide_eq_true h]
    have h1 : m / 18446744073709551616 = 0 := Nat.div_eq_of_lt (by omega)
    have h2 : m % 18446744073709551616 = m := Nat.mod_eq_of_lt (by omega)
    rw [h1, h2]
    simpa using h
  · rw [decide_eq_false h]
    by_cases h1 : m < 18446744073709551616
    · have h2 : m % 18446744073709551616 = m := Nat.mod_eq_of_lt h1
      rw [h2]
      have : decide ((m : Int) ≤ (k : Int)) = false := decide_eq_false (by omega)
      rw [this, Bool.and_false]
    · have h3 : 0 < m / 18446744073709551616 := Nat.div_pos (by omega) (by omega)
      have : ((((m / 18446744073709551616 : Nat) : Int)) == 0) = false := by simp only [beq_eq_false_iff_ne, ne_eq]; omega
      rw [this, Bool.false_and]
theorem w_Mul1 (a b : Int) (ha : I64 a) (hb : I64 b) : wc W n_val_Mul_1 [.int .i64 a, .int .i64 b] = some (.tup [.int .i64 (IntKind.wrap .i64 (a * b)), .bool (inI (a * b))]) := by
  rw [e_val_Mul_1, w_size a ha, w_size b hb]
  have hm := natAbs_mul_le ha hb
  obtain ⟨a1, a2⟩ := ha
  obtain ⟨b1, b2⟩ := hb
  simp only [Option.bind_some, c_u64_mk]
  rw [x_bits_Mul64 _ _ (by omega) (by omega) (by omega) (by omega)]
  simp only [Option.bind_some, asTup_mk, List.getElem?_cons_zero, List.getElem?_cons_succ, c_u64_mk, Int.toNat_natCast]
  have hJ : ∀ k : Nat, k < 18446744073709551616 → J_val_Mul_1_1 a b ((a.natAbs * b.natAbs / 18446744073709551616 : Nat) : Int) ((a.natAbs * b.natAbs % 18446744073709551616 : Nat) : Int) (k : Int) =
      some (.tup [.int .i64 (IntKind.wrap .i64 (a * b)), .bool (decide (a.natAbs * b.natAbs ≤ k))]) := fun k hk => by
    rw [J_val_Mul_1_1_eq, ← mul_split hm k hk]
    cases (((a.natAbs * b.natAbs / 18446744073709551616 : Nat) : Int) == 0) <;> rfl
  have hab : (a * b).natAbs = a.natAbs * b.natAbs := Int.natAbs_mul a b
  by_cases hs : decide (a < 0) = decide (b < 0)
  · rw [beq_t hs]
    simp only [Bool.not_true, cond_false]
    rw [show (9223372036854775807 : Int) = ((9223372036854775807 : Nat) : Int) from rfl, hJ _ (by omega)]
    have h0 : 0 ≤ a * b := by
      rw [decide_eq_decide] at hs
      by_cases h : a < 0
      · exact Int.le_of_lt (Int.mul_pos_of_neg_of_neg h (hs.1 h))
      · exact Int.mul_nonneg (by omega) (by have : ¬ b < 0 := fun e => h (hs.2 e); omega)
    unfold inI
    rw [← hab, decide_eq_true (show -9223372036854775808 ≤ a * b by omega), Bool.true_and]
    congr 4
    congr 1
    rw [decide_eq_decide]; omega
  · rw [beq_f hs]
    simp only [Bool.not_false, cond_true]
    rw [show (9223372036854775808 : Int) = ((9223372036854775808 : Nat) : Int) from rfl, hJ _ (by omega)]
    have h0 : a * b ≤ 0 := by
      rw [decide_eq_decide] at hs
      by_cases h : a < 0
      · exact Int.mul_nonpos_of_nonpos_of_nonneg (by omega) (by omega)
      · exact Int.mul_nonpos_of_nonneg_of_nonpos (by omega) (by omega)
    unfold inI
    rw [← hab, decide_eq_true (show a * b ≤ 9223372036854775807 by omega), Bool.and_true]
    congr 4
    congr 1
    rw [decide_eq_decide]; omega
theorem w_Mul (a b : Val) (ha : I64 a.N) (hb : I64 b.N) : wc W n_val_Mul [a.pv, b.pv] = some (reckV a b mulO).pv := by
  have h := e_val_Mul a.K a.N b.K b.N
  simp only [Val.fold] at h
  rw [h, w_reckon a b n_val_Mul_1 mulO ⟨IntKind.wrap .i64 (a.N * b.N), ?_⟩]
  · simp
  · rw [w_Mul1 _ _ ha hb]
    unfold mulO
    cases hi : inI (a.N * b.N) with
    | false => rfl
    | true =>
      unfold inI at hi
      simp only [Bool.and_eq_true, decide_eq_true_eq] at hi
      rw [wrap64 hi.1 hi.2]; rfl
end Go.Cf

namespace Go.Cf
open Go Go.Ab
set_option linter.unusedVariables false
set_option linter.unusedSimpArgs false
inductive Ex where
  | mk (op col : Int) (v : Val) (l : List Ex)
mutual
def Ex.pv : Ex → PV
  | .mk o c v l => .agg [.int .i64 o, .int .i64 c, .int .i64 v.K, .int .i64 v.N, .slice 6 (Ex.pvL l)]
def Ex.pvL : List Ex → List PV
  | [] => []
  | e :: r => e.pv :: Ex.pvL r
end
theorem Ex.pvL_map : ∀ l : List Ex, Ex.pvL l = l.map Ex.pv
  | [] => rfl
  | e :: r => by rw [Ex.pvL, Ex.pvL_map r]; rfl
theorem Ex.pv_mk (o c : Int) (v : Val) (l : List Ex) : (Ex.mk o c v l).pv = .agg [.int .i64 o, .int .i64 c, .int .i64 v.K, .int .i64 v.N, .slice 6 (l.map Ex.pv)] := by rw [Ex.pv, Ex.pvL_map]
def Ex.op : Ex → Int | .mk o _ _ _ => o
def Ex.col : Ex → Int | .mk _ c _ _ => c
def Ex.v : Ex → Val | .mk _ _ v _ => v
def Ex.l : Ex → List Ex | .mk _ _ _ l => l
theorem Ex.pv_eq (e : Ex) : e.pv = .agg [.int .i64 e.op, .int .i64 e.col, .int .i64 e.v.K, .int .i64 e.v.N, .slice 6 (e.l.map Ex.pv)] := by cases e; exact Ex.pv_mk ..
@[simp] theorem Ex.c_mk (e : Ex) {R : Type} (f : Int → Int → Int → Int → List PV → Option R) : c_g_i64_i64_i64_i64_s6 e.pv f = f e.op e.col e.v.K e.v.N (e.l.map Ex.pv) := by rw [Ex.pv_eq]; rfl
theorem Ex.fold (e : Ex) : PV.agg [.int .i64 e.op, .int .i64 e.col, .int .i64 e.v.K, .int .i64 e.v.N, .slice 6 (e.l.map Ex.pv)] = e.pv := e.pv_eq.symm
mutual
def Ex.sz : Ex → Nat
  | .mk _ _ _ l => Ex.szL l + 1
def Ex.szL : List Ex → Nat
  | [] => 0
  | e :: r => e.sz + Ex.szL r
end
theorem Ex.sz_pos (e : Ex) : 0 < e.sz := by cases e; simp [Ex.sz]
theorem Ex.szL_ge : ∀ l : List Ex, l.length ≤ Ex.szL l
  | [] => Nat.le_refl _
  | e :: r => by have := Ex.szL_ge r; have := e.sz_pos; simp only [Ex.szL, List.length_cons]; omega
theorem Ex.sz_mem : ∀ {l : List Ex} {e : Ex}, e ∈ l → e.sz ≤ Ex.szL l
  | x :: r, e, h => by
    rcases List.mem_cons.1 h with rfl | h
    · simp only [Ex.szL]; omega
    · have := Ex.sz_mem h; simp only [Ex.szL]; omega
theorem Ex.sz_drop (l : List Ex) (i : Nat) (hi : i < l.length) : Ex.szL (l.drop i) = l[i].sz + Ex.szL (l.drop (i + 1)) := by rw [List.drop_eq_getElem_cons hi]; rfl
def lowO (o : Int) : Int := bif decide (2 ≤ o) && decide (o ≤ 7) then 2 else bif o == 10 then 1 else 0
def highO (o : Int) : Int := bif decide (2 ≤ o) && decide (o ≤ 7) then 2 else bif o == 10 then 1 else bif o == 8 || o == 9 then 4 else 0
def fnO (o : Int) : PV :=
  bif o == 2 then .fn n_expr_two_1 [] [.imm 0 (.fn n_val_Add [] []) 0] else bif o == 3 then .fn n_expr_two_1 [] [.imm 0 (.fn n_val_Sub [] []) 0] else
  bif o == 4 then .fn n_expr_two_1 [] [.imm 0 (.fn n_val_Mul [] []) 0] else bif o == 5 then .fn n_expr_two_1 [] [.imm 0 (.fn n_val_Div [] []) 0] else
  bif o == 6 then .fn n_expr_two_1 [] [.imm 0 (.fn n_val_Eq [] []) 0] else bif o == 7 then .fn n_expr_two_1 [] [.imm 0 (.fn n_val_Lt [] []) 0] else
  bif o == 8 then .fn n_expr_ways_1 [] [] else bif o == 9 then .fn n_expr_ways_2 [] [] else bif o == 10 then .fn n_expr_ways_3 [] [] else .nilfn
theorem w_ways (o : Int) : wc W n_expr_ways [.int .i64 o] = some (.agg [.int .i64 (lowO o), .int .i64 (highO o), fnO o]) := by
  have two : ∀ g : Nat, wc W n_expr_two [.fn g [] []] = some (.agg [.int .i64 2, .int .i64 2, .fn n_expr_two_1 [] [.imm 0 (.fn g [] []) 0]]) := fun g => by rw [e_expr_two]; rfl
  rw [e_expr_ways]
  simp only [two, Option.bind_some, c_g_i64_i64_p_mk]
  unfold lowO highO fnO
  by_cases h2 : o = 2
  · subst h2; rfl
  by_cases h3 : o = 3
  · subst h3; rfl
  by_cases h4 : o = 4
  · subst h4; rfl
  by_cases h5 : o = 5
  · subst h5; rfl
  by_cases h6 : o = 6
  · subst h6; rfl
  by_cases h7 : o = 7
  · subst h7; rfl
  by_cases h8 : o = 8
  · subst h8; rfl
  by_cases h9 : o = 9
  · subst h9; rfl
  by_cases h10 : o = 10
  · subst h10; rfl
  have hr : (decide (2 ≤ o) && decide (o ≤ 7)) = false := by
    rw [← Bool.decide_and]; exact decide_eq_false (by omega)
  rw [beq_f h2, beq_f h3, beq_f h4, beq_f h5, beq_f h6, beq_f h7, beq_f h8, beq_f h9, beq_f h10, hr]
  rfl
def partE (o c : Int) (v : Val) (n : Nat) : Bool :=
  decide (0 ≤ o) && decide (o < 11) && (decide (lowO o ≤ (n : Int)) && decide ((n : Int) ≤ highO o)) && (c == 0 || (o == 1 && decide (0 < c) && decide (c ≤ 15))) && ((v.K == 0 && v.N == 0) || (o == 0 && mayV v))
theorem w_part (e : Ex) : wc W n_expr_part [e.pv] = some (.bool (partE e.op e.col e.v e.l.length)) := by
  have h := e_expr_part e.op e.col e.v.K e.v.N (e.l.map Ex.pv)
  rw [Ex.fold] at h
  rw [h, w_ways, List.length_map]
  simp only [Option.bind_some, c_g_i64_i64_p_mk]
  have h3 : ∀ b1 b2 b3 x y z, J_expr_part_3 e.op e.col e.v.K e.v.N (e.l.map Ex.pv) b1 b2 b3 x y z = some (.bool (decide (0 ≤ e.op) && decide (e.op < 11) && b1 && b2 && b3)) := fun b1 b2 b3 x y z => by
    rw [J_expr_part_3_eq]
    have : decide (e.op ≥ 0) = decide (0 ≤ e.op) := rfl
    rw [this]
    cases decide (0 ≤ e.op) <;> cases decide (e.op < 11) <;> cases b1 <;> cases b2 <;> rfl
  have h2 : ∀ b1 b2 x y z, J_expr_part_2 e.op e.col e.v.K e.v.N (e.l.map Ex.pv) b1 b2 x y z = some (.bool (decide (0 ≤ e.op) && decide (e.op < 11) && b1 && b2 && ((e.v.K == 0 && e.v.N == 0) || (e.op == 0 && mayV e.v)))) := fun b1 b2 x y z => by
    rw [J_expr_part_2_eq]
    cases e.v.K == 0 <;> cases e.v.N == 0 <;> cases e.op == 0 <;> simp [h3, w_val_May]
  have h1 : ∀ b1 x y z, J_expr_part_1 e.op e.col e.v.K e.v.N (e.l.map Ex.pv) b1 x y z = some (.bool (decide (0 ≤ e.op) && decide (e.op < 11) && b1 && (e.col == 0 || (e.op == 1 && decide (0 < e.col) && decide (e.col ≤ 15))) && ((e.v.K == 0 && e.v.N == 0) || (e.op == 0 && mayV e.v)))) := fun b1 x y z => by
    rw [J_expr_part_1_eq]
    have : decide (e.col > 0) = decide (0 < e.col) := rfl
    rw [this]
    cases e.col == 0 <;> cases e.op == 1 <;> cases decide (0 < e.col) <;> simp [h2]
  simp only [h1]
  unfold partE
  have : decide (((e.l.length : Nat) : Int) ≥ lowO e.op) = decide (lowO e.op ≤ (e.l.length : Int)) := rfl
  rw [this]
  cases decide (lowO e.op ≤ (e.l.length : Int)) <;> simp
def stepE (d n : Int) (e : Ex) : Bool := decide (n + 1 ≤ 30) && decide (d ≤ 6) && partE e.op e.col e.v e.l.length
mutual
def mayE : Int → Int → Ex → Bool × Int
  | d, n, .mk o c v l => bif decide (n + 1 ≤ 30) && decide (d ≤ 6) && partE o c v l.length then mayL (d + 1) (n + 1) l else (false, n + 1)
def mayL : Int → Int → List Ex → Bool × Int
  | d, n, [] => (true, n)
  | d, n, e :: r => match mayE d n e with | (true, m) => mayL d m r | (false, m) => (false, m)
end
theorem mayE_eq (d n : Int) (e : Ex) : mayE d n e = bif stepE d n e then mayL (d + 1) (n + 1) e.l else (false, n + 1) := by cases e; rfl
theorem w_May1 (e : Ex) (d n : Int) (h0 : 0 ≤ n) (h1 : n ≤ 30) :
    W n_expr_May_1 false [.pv e.pv, .pv (.int .i64 d), .own 0 0] [.var false 0 (.pv (.int .i64 n))] = some (.pv (.bool (stepE d n e)), [.var false 0 (.pv (.int .i64 (n + 1)))]) := by
  have h := o_expr_May_1_o1_1 e.op e.col e.v.K e.v.N (e.l.map Ex.pv) d n
  rw [Ex.fold] at h
  rw [h, wrap64 (by omega) (by omega), w_part]
  unfold stepE
  cases decide (n + 1 ≤ 30) <;> cases decide (d ≤ 6) <;> rfl
theorem may_bounds : ∀ (k : Nat), (∀ (e : Ex) (d n : Int), e.sz ≤ k → 0 ≤ n → n ≤ 30 → 0 ≤ (mayE d n e).2 ∧ (mayE d n e).2 ≤ 31 ∧ ((mayE d n e).1 = true → (mayE d n e).2 = n + e.sz ∧ (mayE d n e).2 ≤ 30)) ∧
    (∀ (l : List Ex) (d n : Int), Ex.szL l ≤ k → 0 ≤ n → n ≤ 30 → 0 ≤ (mayL d n l).2 ∧ (mayL d n l).2 ≤ 31 ∧ ((mayL d n l).1 = true → (mayL d n l).2 = n + Ex.szL l ∧ (mayL d n l).2 ≤ 30))
  | k => by
    have hE : ∀ (e : Ex) (d n : Int), (∀ (l : List Ex) (d n : Int), Ex.szL l < e.sz → 0 ≤ n → n ≤ 30 → 0 ≤ (mayL d n l).2 ∧ (mayL d n l).2 ≤ 31 ∧ ((mayL d n l).1 = true → (mayL d n l).2 = n + Ex.szL l ∧ (mayL d n l).2 ≤ 30)) → 0 ≤ n → n ≤ 30 →
        0 ≤ (mayE d n e).2 ∧ (mayE d n e).2 ≤ 31 ∧ ((mayE d n e).1 = true → (mayE d n e).2 = n + e.sz ∧ (mayE d n e).2 ≤ 30) := fun e d n ih h0 h1 => by
      rw [mayE_eq]
      cases hs : stepE d n e with
      | false =>
        refine ⟨?_, ?_, fun h => ?_⟩
        · show 0 ≤ n + 1; omega
        · show n + 1 ≤ 31; omega
        · cases h
      | true =>
        simp only [cond_true]
        have h30 : n + 1 ≤ 30 := by
          unfold stepE at hs
          simp only [Bool.and_eq_true, decide_eq_true_eq] at hs
          exact hs.1.1
        have hsz : e.sz = Ex.szL e.l + 1 := by cases e; rfl
        obtain ⟨a, b, c⟩ := ih e.l (d + 1) (n + 1) (by omega) (by omega) h30
        exact ⟨a, b, fun h => by have := c h; omega⟩
    have hL : ∀ (l : List Ex) (d n : Int), (∀ e ∈ l, ∀ (d n : Int), 0 ≤ n → n ≤ 30 → 0 ≤ (mayE d n e).2 ∧ (mayE d n e).2 ≤ 31 ∧ ((mayE d n e).1 = true → (mayE d n e).2 = n + e.sz ∧ (mayE d n e).2 ≤ 30)) → 0 ≤ n → n ≤ 30 →
        0 ≤ (mayL d n l).2 ∧ (mayL d n l).2 ≤ 31 ∧ ((mayL d n l).1 = true → (mayL d n l).2 = n + Ex.szL l ∧ (mayL d n l).2 ≤ 30) := fun l => by
      induction l with
      | nil => intro d n _ h0 h1; refine ⟨h0, ?_, fun _ => ⟨?_, h1⟩⟩ <;> simp [mayL, Ex.szL]; omega
      | cons x r ih =>
        intro d n he h0 h1
        have k := he x (by simp) d n h0 h1
        simp only [mayL]
        cases hx : mayE d n x with
        | mk b m =>
          rw [hx] at k
          cases b with
          | false => exact ⟨k.1, k.2.1, fun h => by cases h⟩
          | true =>
            obtain ⟨k1, k2⟩ := k.2.2 rfl
            simp only at k1 k2 k ⊢
            obtain ⟨a, b, c⟩ := ih d m (fun e h => he e (by simp [h])) k.1 k2
            exact ⟨a, b, fun h => by have := c h; simp only [Ex.szL]; omega⟩
    have main : ∀ (m : Nat) (e : Ex), e.sz ≤ m → ∀ (d n : Int), 0 ≤ n → n ≤ 30 → 0 ≤ (mayE d n e).2 ∧ (mayE d n e).2 ≤ 31 ∧ ((mayE d n e).1 = true → (mayE d n e).2 = n + e.sz ∧ (mayE d n e).2 ≤ 30) := fun m => by
      induction m with
      | zero => intro e h; have := e.sz_pos; omega
      | succ m ih =>
        intro e h d n h0 h1
        exact hE e d n (fun l d n hl h0 h1 => hL l d n (fun x hx => ih x (by have := Ex.sz_mem hx; omega)) h0 h1) h0 h1
    exact ⟨fun e d n _ => main e.sz e (Nat.le_refl _) d n, fun l d n _ => hL l d n fun e _ => main e.sz e (Nat.le_refl _)⟩
theorem w_eachM : ∀ (m : Nat) (e : Ex), e.sz ≤ m → ∀ (d n : Int), e.l.length ≤ 9223372036854775807 → (∀ (x : Ex), x.sz < e.sz → x.l.length ≤ 9223372036854775807) → 0 ≤ n → n ≤ 30 → d ≤ 9 → -9 ≤ d →
    W n_expr_each false [.pv e.pv, .pv (.int .i64 d), .fnv n_expr_May_1 [] [.own 0 0]] [.var false 0 (.pv (.int .i64 n))] = some (.pv (.bool (mayE d n e).1), [.var false 0 (.pv (.int .i64 (mayE d n e).2))])
  | 0, e, h, _, _, _, _, _, _, _, _ => by have := e.sz_pos; omega
  | m + 1, e, h, d, n, hl, hx, h0, h1, hd, hd' => by
    have he := o_expr_each_o1_1 e.op e.col e.v.K e.v.N (e.l.map Ex.pv) d n
    rw [Ex.fold] at he
    rw [he, w_May1 e d n h0 h1, mayE_eq]
    simp only [Option.bind_some, k_5b106d_mk, c_b_mk]
    cases hs : stepE d n e with
    | false => rfl
    | true =>
      simp only [Bool.not_true, cond_false, cond_true, List.length_map]
      have hs' := hs
      unfold stepE at hs'
      simp only [Bool.and_eq_true, decide_eq_true_eq] at hs'
      obtain ⟨⟨h30, h6⟩, _⟩ := hs'
      have hsz : e.sz = Ex.szL e.l + 1 := by cases e; rfl
      have loop : ∀ (k i : Nat) (n' : Int), i + k = e.l.length → 0 ≤ n' → n' ≤ 30 →
          L_expr_each_o1_1 d (e.l.map Ex.pv) (e.l.length : Int) (i : Int) n' = some (.pv (.bool (mayL (d + 1) n' (e.l.drop i)).1), [.var false 0 (.pv (.int .i64 (mayL (d + 1) n' (e.l.drop i)).2))]) := fun k => by
        induction k with
        | zero =>
          intro i n' hi _ _
          rw [L_expr_each_o1_1_eq, show i = e.l.length by omega]
          simp only [ge_len, cond_false, List.drop_length, mayL]
        | succ k ih =>
          intro i n' hi h0' h1'
          have hi' : i < e.l.length := by omega
          have hm := Ex.sz_mem (List.getElem_mem hi')
          rw [L_expr_each_o1_1_eq, List.drop_eq_getElem_cons hi']
          simp only [lt_len hi', nat_le, cond_true, Int.toNat_natCast, List.getElem?_map, List.getElem?_eq_getElem hi', Option.map_some, Option.bind_some, Ex.c_mk, Ex.fold]
          rw [wrap64 (by omega) (by omega), w_eachM m e.l[i] (by omega) (d + 1) n' (hx _ (by omega)) (fun x hx' => hx x (by omega)) h0' h1' (by omega) (by omega)]
          simp only [Option.bind_some, k_5b106d_mk, c_b_mk, mayL]
          have hb := (may_bounds e.l[i].sz).1 e.l[i] (d + 1) n' (Nat.le_refl _) h0' h1'
          cases hy : mayE (d + 1) n' e.l[i] with
          | mk b q =>
            rw [hy] at hb
            cases b with
            | false => rfl
            | true =>
              simp only [Bool.not_true, cond_false]
              rw [wrap_succ (by omega)]
              exact ih (i + 1) q (by omega) hb.1 (hb.2.2 rfl).2
      have := loop e.l.length 0 (n + 1) (by omega) (by omega) h30
      rw [List.drop_zero] at this
      exact this
def mayT (e : Ex) : Bool := (mayE 1 0 e).1
def Ex.ok (e : Ex) : Prop := ∀ x : Ex, x.sz ≤ e.sz → x.l.length ≤ 9223372036854775807
theorem Ex.ok_of {e : Ex} (h : e.sz ≤ 9223372036854775807) : e.ok := fun x hx => by
  have h1 : x.sz = Ex.szL x.l + 1 := by cases x; rfl
  have := Ex.szL_ge x.l
  omega
theorem w_expr_May (e : Ex) (h : e.ok) : wc W n_expr_May [e.pv] = some (.bool (mayT e)) := by
  have he := e_expr_May e.op e.col e.v.K e.v.N (e.l.map Ex.pv)
  rw [Ex.fold] at he
  rw [he, w_eachM e.sz e (Nat.le_refl _) 1 0 (h e (Nat.le_refl _)) (fun x hx => h x (by omega)) (by omega) (by omega) (by omega) (by omega)]
  rfl
theorem mayT_sz {e : Ex} (h : mayT e = true) : e.sz ≤ 30 := by
  have := ((may_bounds e.sz).1 e 1 0 (Nat.le_refl _) (by omega) (by omega)).2.2 h
  omega
end Go.Cf
