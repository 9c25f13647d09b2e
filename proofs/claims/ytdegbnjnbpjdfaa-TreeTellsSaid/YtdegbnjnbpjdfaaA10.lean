/- Part 11 of the proof: an abstract machine that runs the program's code over plain values, its soundness, and what the functions tell of plain values. Conditions: those in each theorem. -/
import Derived.Test.YtdegbnjnbpjdfaaA9
import Derived.Carry
namespace Go.Ab
open Go.RowKit (Below)
set_option linter.unusedVariables false
set_option linter.unusedSimpArgs false
section
variable {c : Cfg} {t e : TypeId} {p : PV}
theorem Typed.int_inv {k : IntKind} (h : Typed c t p) (hk : (c.at_ t).k = .int k) : ∃ n, p = .int k n ∧ (Lit.int k n).wf = true := by
  cases h with
  | int t k' n h hw => rw [hk] at h; cases h; exact ⟨n, rfl, hw⟩
  | bool t b h => rw [hk] at h; cases h
  | str t s h => rw [hk] at h; cases h
  | slice t e xs h => rw [hk] at h; cases h
  | struct t fs ps h => rw [hk] at h; cases h
  | arr t e n ps h => rw [hk] at h; cases h
theorem Typed.bool_inv (h : Typed c t p) (hk : (c.at_ t).k = .bool) : ∃ b, p = .bool b := by
  cases h with
  | int t k' n h hw => rw [hk] at h; cases h
  | bool t b h => exact ⟨b, rfl⟩
  | str t s h => rw [hk] at h; cases h
  | slice t e xs h => rw [hk] at h; cases h
  | struct t fs ps h => rw [hk] at h; cases h
  | arr t e n ps h => rw [hk] at h; cases h
theorem Typed.str_inv (h : Typed c t p) (hk : (c.at_ t).k = .str) : ∃ s, p = .str s ∧ s.size ≤ maxLen := by
  cases h with
  | int t k' n h hw => rw [hk] at h; cases h
  | bool t b h => rw [hk] at h; cases h
  | str t s h hs => exact ⟨s, rfl, hs⟩
  | slice t e xs h => rw [hk] at h; cases h
  | struct t fs ps h => rw [hk] at h; cases h
  | arr t e n ps h => rw [hk] at h; cases h
theorem Typed.slice_inv (h : Typed c t p) (hk : (c.at_ t).k = .slice e) : ∃ xs, p = .slice (c.sh e) xs ∧ xs.length ≤ maxLen ∧ ∀ x ∈ xs, Typed c e x := by
  cases h with
  | int t k' n h hw => rw [hk] at h; cases h
  | bool t b h => rw [hk] at h; cases h
  | str t s h => rw [hk] at h; cases h
  | slice t e xs h hl hx => rw [hk] at h; cases h; exact ⟨xs, rfl, hl, hx⟩
  | struct t fs ps h => rw [hk] at h; cases h
  | arr t e n ps h => rw [hk] at h; cases h
theorem Typed.arr_inv {n : Nat} (h : Typed c t p) (hk : (c.at_ t).k = .arr n e) : ∃ ps : List PV, p = .agg (ps.flatMap PV.cells) ∧ ps.length = n ∧ ∀ x ∈ ps, Typed c e x := by
  cases h with
  | int t k' n h hw => rw [hk] at h; cases h
  | bool t b h => rw [hk] at h; cases h
  | str t s h => rw [hk] at h; cases h
  | slice t e xs h => rw [hk] at h; cases h
  | struct t fs ps h => rw [hk] at h; cases h
  | arr t e n ps h hl hx => rw [hk] at h; cases h; exact ⟨ps, rfl, hl, hx⟩
def TypedL (c : Cfg) : List TypeId → List PV → Prop
  | [], [] => True
  | t :: ts, p :: ps => Typed c t p ∧ TypedL c ts ps
  | _, _ => False
theorem typedL_of {c : Cfg} : ∀ {fs : List (TypeId × Nat)} {ps : List PV}, ps.length = fs.length → (∀ (i : Nat) (f : TypeId × Nat) (p : PV), fs[i]? = some f → ps[i]? = some p → Typed c f.1 p) → TypedL c (fs.map (·.1)) ps
  | [], [], _, _ => trivial
  | [], _ :: _, h, _ => by simp at h
  | _ :: _, [], h, _ => by simp at h
  | f :: fs, p :: ps, h, k => ⟨k 0 f p rfl rfl, typedL_of (by simpa using h) fun i f p hf hp => k (i + 1) f p (by simpa using hf) (by simpa using hp)⟩
theorem Typed.struct_inv {fs : List (TypeId × Nat)} (h : Typed c t p) (hk : (c.at_ t).k = .struct fs) : ∃ ps : List PV, p = .agg (ps.flatMap PV.cells) ∧ TypedL c (fs.map (·.1)) ps := by
  cases h with
  | int t k' n h hw => rw [hk] at h; cases h
  | bool t b h => rw [hk] at h; cases h
  | str t s h => rw [hk] at h; cases h
  | slice t e xs h => rw [hk] at h; cases h
  | struct t fs ps h hl hp => rw [hk] at h; cases h; exact ⟨ps, rfl, typedL_of hl hp⟩
  | arr t e n ps h => rw [hk] at h; cases h
theorem typedL1 {a : TypeId} {ps : List PV} (h : TypedL c [a] ps) : ∃ x, ps = [x] ∧ Typed c a x := by
  match ps, h with
  | [x], h => exact ⟨x, rfl, h.1⟩
theorem typedL_cons {a : TypeId} {ts : List TypeId} {ps : List PV} (h : TypedL c (a :: ts) ps) : ∃ x qs, ps = x :: qs ∧ Typed c a x ∧ TypedL c ts qs := by
  match ps, h with
  | x :: qs, h => exact ⟨x, qs, rfl, h.1, h.2⟩
theorem typedL_nil {ps : List PV} (h : TypedL c [] ps) : ps = [] := by
  match ps, h with
  | [], h => rfl
theorem list_of {α : Type} {Q : α → Prop} {f : α → PV} : ∀ {xs : List PV}, (∀ x ∈ xs, ∃ a, x = f a ∧ Q a) → ∃ l : List α, xs = l.map f ∧ ∀ a ∈ l, Q a
  | [], _ => ⟨[], rfl, by simp⟩
  | x :: xs, h => by
    obtain ⟨a, rfl, ha⟩ := h x (by simp)
    obtain ⟨l, rfl, hl⟩ := list_of (xs := xs) (fun y hy => h y (List.mem_cons_of_mem _ hy))
    exact ⟨a :: l, rfl, by simpa using ⟨ha, hl⟩⟩
end
end Go.Ab

namespace Go.Cf
open Go Go.Ab
set_option linter.unusedVariables false
theorem ty_int {p : PV} (h : Typed cfg t_int p) : ∃ n : Int, p = .int .i64 n ∧ I64 n := by
  obtain ⟨n, rfl, hw⟩ := h.int_inv (k := .i64) (by kernel_rfl)
  exact ⟨n, rfl, wf_i64 hw⟩
theorem ty_string {p : PV} (h : Typed cfg t_string p) : ∃ s : ByteArray, p = .str s ∧ s.size ≤ maxLen := h.str_inv (by kernel_rfl)
end Go.Cf

namespace Go.Cf
open Go Go.Ab
set_option linter.unusedVariables false
set_option maxRecDepth 100000
noncomputable def jF8 : Jn PV := (Classical.choose (exT fi8 (fin cfg fi8))).1
noncomputable def lF8 : Ln PV := (Classical.choose (exT fi8 (fin cfg fi8))).2
theorem T8 : Tied cfg W fi8 (fin cfg fi8) jF8 lF8 := Classical.choose_spec (exT fi8 (fin cfg fi8))
noncomputable def J_roadbooklaw06_TreeTells_1 (s7 : ByteArray) (i8 : Int) (i9 : Int) (l10 : List PV) (i11 : Int) (l12 : List PV) : Option PV := jF8 [1, 1, 1] (St.mk [(2, (AV.pv (PV.str s7))), (3, (AV.pv (PV.int .i64 i8))), (4, (AV.pv (PV.imm 3 (PV.agg [(PV.int .i64 i9), (PV.slice 3 l10)]) 0))), (5, (AV.pv (PV.imm 3 (PV.agg [(PV.int .i64 i11), (PV.slice 3 l12)]) 0)))] [])
noncomputable def J_roadbooklaw06_TreeTells_2 (i45 : Int) (i46 : Int) (l47 : List PV) (i48 : Int) (l49 : List PV) (b50 : Bool) (b51 : Bool) (b52 : Bool) (i53 : Int) (l54 : List PV) (i55 : Int) (l56 : List PV) : Option PV := jF8 [1, 1, 1, 1, 1, 1] (St.mk [(3, (AV.pv (PV.int .i64 i45))), (4, (AV.pv (PV.imm 3 (PV.agg [(PV.int .i64 i46), (PV.slice 3 l47)]) 0))), (5, (AV.pv (PV.imm 3 (PV.agg [(PV.int .i64 i48), (PV.slice 3 l49)]) 0))), (10, (AV.own 0 0)), (11, (AV.pv (PV.bool b50))), (12, (AV.own 1 0)), (13, (AV.pv (PV.bool b51))), (14, (AV.pv (PV.bool b52)))] [(Ob.var false 3 (AV.pv (PV.agg [(PV.int .i64 i53), (PV.slice 3 l54)]))), (Ob.var false 3 (AV.pv (PV.agg [(PV.int .i64 i55), (PV.slice 3 l56)])))])
noncomputable def J_roadbooklaw06_TreeTells_3 (i72 : Int) (i73 : Int) (l74 : List PV) (i75 : Int) (l76 : List PV) (b77 : Bool) (b78 : Bool) (i79 : Int) (l80 : List PV) (i81 : Int) (l82 : List PV) : Option PV := jF8 [1, 1, 1, 1, 1, 1, 1] (St.mk [(3, (AV.pv (PV.int .i64 i72))), (4, (AV.pv (PV.imm 3 (PV.agg [(PV.int .i64 i73), (PV.slice 3 l74)]) 0))), (5, (AV.pv (PV.imm 3 (PV.agg [(PV.int .i64 i75), (PV.slice 3 l76)]) 0))), (14, (AV.pv (PV.bool b77))), (15, (AV.pv (PV.bool b78)))] [(Ob.var false 3 (AV.pv (PV.agg [(PV.int .i64 i79), (PV.slice 3 l80)]))), (Ob.var false 3 (AV.pv (PV.agg [(PV.int .i64 i81), (PV.slice 3 l82)])))])
theorem J_roadbooklaw06_TreeTells_1_eq (s7 : ByteArray) (i8 : Int) (i9 : Int) (l10 : List PV) (i11 : Int) (l12 : List PV) : J_roadbooklaw06_TreeTells_1 s7 i8 i9 l10 i11 l12 =
  (((wc W n_tree_Read [(PV.str s7)])).bind (fun v13 => (((PV.asTup v13)).bind (fun v14 => (((v14)[0]?).bind (fun v15 => (c_g_i64_s3 v15 (fun v16 v17 => (((PV.asTup v13)).bind (fun v18 => (((v18)[1]?).bind (fun v19 => (c_b v19 (fun v20 => (((wc W n_roadbookref06_Read [(PV.str s7)])).bind (fun v21 => (((PV.asTup v21)).bind (fun v22 => (((v22)[0]?).bind (fun v23 => (c_g_i64_s3 v23 (fun v24 v25 => (((PV.asTup v21)).bind (fun v26 => (((v26)[1]?).bind (fun v27 => (c_b v27 (fun v28 => (((wc W n_tree_May [(PV.agg [(PV.int .i64 i9), (PV.slice 3 l10)])])).bind (fun v29 => (c_b v29 (fun v30 => (((wc W n_roadbookref06_May [(PV.agg [(PV.int .i64 i9), (PV.slice 3 l10)])])).bind (fun v31 => (c_b v31 (fun v32 => (bif (v30 == v32) then (((wc W n_tree_Set [(PV.agg [(PV.int .i64 i9), (PV.slice 3 l10)])])).bind (fun v33 => (c_i64 v33 (fun v34 => (((wc W n_roadbookref06_Set [(PV.agg [(PV.int .i64 i9), (PV.slice 3 l10)])])).bind (fun v35 => (c_i64 v35 (fun v36 => (bif (v34 == v36) then (((wc W n_tree_Text [(PV.agg [(PV.int .i64 i9), (PV.slice 3 l10)])])).bind (fun v37 => (c_t v37 (fun v38 => (((wc W n_roadbookref06_Text [(PV.agg [(PV.int .i64 i9), (PV.slice 3 l10)])])).bind (fun v39 => (c_t v39 (fun v40 => (bif ((ByteArray.toList v38) == (ByteArray.toList v40)) then (((wc W n_tree_Same [(PV.agg [(PV.int .i64 i9), (PV.slice 3 l10)]), (PV.agg [(PV.int .i64 i11), (PV.slice 3 l12)])])).bind (fun v41 => (c_b v41 (fun v42 => (((wc W n_roadbookref06_Same [(PV.agg [(PV.int .i64 i9), (PV.slice 3 l10)]), (PV.agg [(PV.int .i64 i11), (PV.slice 3 l12)])])).bind (fun v43 => (c_b v43 (fun v44 => (J_roadbooklaw06_TreeTells_2 i8 i9 l10 i11 l12 v20 v28 (v42 == v44) v16 v17 v24 v25))))))))) else (J_roadbooklaw06_TreeTells_2 i8 i9 l10 i11 l12 v20 v28 false v16 v17 v24 v25)))))))))) else (J_roadbooklaw06_TreeTells_2 i8 i9 l10 i11 l12 v20 v28 false v16 v17 v24 v25)))))))))) else (J_roadbooklaw06_TreeTells_2 i8 i9 l10 i11 l12 v20 v28 false v16 v17 v24 v25)))))))))))))))))))))))))))))))))))))) := (T8.join [1, 1, 1] _).trans (by kernel_rfl)
theorem J_roadbooklaw06_TreeTells_2_eq (i45 : Int) (i46 : Int) (l47 : List PV) (i48 : Int) (l49 : List PV) (b50 : Bool) (b51 : Bool) (b52 : Bool) (i53 : Int) (l54 : List PV) (i55 : Int) (l56 : List PV) : J_roadbooklaw06_TreeTells_2 i45 i46 l47 i48 l49 b50 b51 b52 i53 l54 i55 l56 =
  (((wc W n_roadbookref06_Same [(PV.agg [(PV.int .i64 i53), (PV.slice 3 l54)]), (PV.agg [(PV.int .i64 i55), (PV.slice 3 l56)])])).bind (fun v57 => (c_b v57 (fun v58 => (bif v58 then (bif (b50 == b51) then (((wc W n_tree_First [(PV.int .i64 i45)])).bind (fun v59 => (c_g_i64_s3 v59 (fun v60 v61 => (((wc W n_roadbookref06_First [(PV.int .i64 i45)])).bind (fun v62 => (c_g_i64_s3 v62 (fun v63 v64 => (((wc W n_roadbookref06_Same [(PV.agg [(PV.int .i64 v60), (PV.slice 3 v61)]), (PV.agg [(PV.int .i64 v63), (PV.slice 3 v64)])])).bind (fun v65 => (c_b v65 (fun v66 => (bif v66 then (((wc W n_tree_Leaf [(PV.int .i64 i45)])).bind (fun v67 => (c_g_i64_s3 v67 (fun v68 v69 => (((wc W n_roadbookref06_Same [(PV.agg [(PV.int .i64 v68), (PV.slice 3 v69)]), (PV.agg [(PV.int .i64 i45), (PV.slice 3 [])])])).bind (fun v70 => (c_b v70 (fun v71 => (J_roadbooklaw06_TreeTells_3 i45 i46 l47 i48 l49 b52 v71 i53 l54 i55 l56))))))))) else (J_roadbooklaw06_TreeTells_3 i45 i46 l47 i48 l49 b52 false i53 l54 i55 l56)))))))))))))) else (J_roadbooklaw06_TreeTells_3 i45 i46 l47 i48 l49 b52 false i53 l54 i55 l56)) else (J_roadbooklaw06_TreeTells_3 i45 i46 l47 i48 l49 b52 false i53 l54 i55 l56)))))) := (T8.join [1, 1, 1, 1, 1, 1] _).trans (by kernel_rfl)
theorem J_roadbooklaw06_TreeTells_3_eq (i72 : Int) (i73 : Int) (l74 : List PV) (i75 : Int) (l76 : List PV) (b77 : Bool) (b78 : Bool) (i79 : Int) (l80 : List PV) (i81 : Int) (l82 : List PV) : J_roadbooklaw06_TreeTells_3 i72 i73 l74 i75 l76 b77 b78 i79 l80 i81 l82 =
  (bif b77 then (bif b78 then (((wc W n_tree_Join [(PV.agg [(PV.int .i64 i73), (PV.slice 3 l74)]), (PV.agg [(PV.int .i64 i75), (PV.slice 3 l76)])])).bind (fun v83 => (c_g_i64_s3 v83 (fun v84 v85 => (((wc W n_roadbookref06_Join [(PV.agg [(PV.int .i64 i73), (PV.slice 3 l74)]), (PV.agg [(PV.int .i64 i75), (PV.slice 3 l76)])])).bind (fun v86 => (c_g_i64_s3 v86 (fun v87 v88 => (((wc W n_roadbookref06_Same [(PV.agg [(PV.int .i64 v84), (PV.slice 3 v85)]), (PV.agg [(PV.int .i64 v87), (PV.slice 3 v88)])])).bind (fun v89 => (c_b v89 (fun v90 => (bif v90 then (((wc W n_tree_All [(PV.int .i64 i72)])).bind (fun v91 => (c_s3 v91 (fun v92 => (((wc W n_roadbookref06_All [(PV.int .i64 i72)])).bind (fun v93 => (c_s3 v93 (fun v94 => (((wc W n_roadbookref06_Lists [(PV.slice 3 v92), (PV.slice 3 v94)])).bind (fun v95 => (c_b v95 (fun v96 => (some (PV.bool v96)))))))))))))) else (some (PV.bool false))))))))))))))) else (some (PV.bool false))) else (some (PV.bool false))) := (T8.join [1, 1, 1, 1, 1, 1, 1] _).trans (by kernel_rfl)
theorem e_roadbooklaw06_TreeTells (a0_0 : Int) (a0_1 : List PV) (a1_0 : Int) (a1_1 : List PV) (a2 : ByteArray) (a3 : Int) : wc W n_roadbooklaw06_TreeTells [(PV.agg [(PV.int .i64 a0_0), (PV.slice 3 a0_1)]), (PV.agg [(PV.int .i64 a1_0), (PV.slice 3 a1_1)]), (PV.str a2), (PV.int .i64 a3)] =
  (((wc W n_roadbooklaw06_awake [])).bind (fun v1 => (c_b v1 (fun v2 => (bif (!v2) then (some (PV.bool v2)) else (((wc W n_roadbookref06_Size [(PV.agg [(PV.int .i64 a0_0), (PV.slice 3 a0_1)]), (PV.int .i64 (100 : Int))])).bind (fun v3 => (c_i64 v3 (fun v4 => (bif (decide (GT.gt v4 (100 : Int))) then (some (PV.bool v2)) else (((wc W n_roadbookref06_Size [(PV.agg [(PV.int .i64 a1_0), (PV.slice 3 a1_1)]), (PV.int .i64 (100 : Int))])).bind (fun v5 => (c_i64 v5 (fun v6 => (bif (decide (GT.gt v6 (100 : Int))) then (some (PV.bool v2)) else (bif (decide (GT.gt (((ByteArray.size a2) : Nat) : Int) (1000 : Int))) then (some (PV.bool v2)) else (J_roadbooklaw06_TreeTells_1 a2 a3 a0_0 a0_1 a1_0 a1_1))))))))))))))))) := go (by kernel_rfl) (by kernel_rfl) T8 (by kernel_rfl)
noncomputable def jF9 : Jn PV := (Classical.choose (exT fi9 (fin cfg fi9))).1
noncomputable def lF9 : Ln PV := (Classical.choose (exT fi9 (fin cfg fi9))).2
theorem T9 : Tied cfg W fi9 (fin cfg fi9) jF9 lF9 := Classical.choose_spec (exT fi9 (fin cfg fi9))
noncomputable def J_roadbooklaw06_TreeBack_1 (s5 : ByteArray) (i6 : Int) (l7 : List PV) : Option PV := jF9 [1, 1, 1] (St.mk [(1, (AV.pv (PV.str s5))), (2, (AV.pv (PV.imm 3 (PV.agg [(PV.int .i64 i6), (PV.slice 3 l7)]) 0)))] [])
noncomputable def J_roadbooklaw06_TreeBack_2 (s22 : ByteArray) (i23 : Int) (l24 : List PV) : Option PV := jF9 [1, 1, 1, 1, 1] (St.mk [(1, (AV.pv (PV.str s22)))] [(Ob.var false 3 (AV.pv (PV.agg [(PV.int .i64 i23), (PV.slice 3 l24)])))])
theorem J_roadbooklaw06_TreeBack_1_eq (s5 : ByteArray) (i6 : Int) (l7 : List PV) : J_roadbooklaw06_TreeBack_1 s5 i6 l7 =
  (((wc W n_tree_Text [(PV.agg [(PV.int .i64 i6), (PV.slice 3 l7)])])).bind (fun v8 => (c_t v8 (fun v9 => (((wc W n_tree_Read [(PV.str v9)])).bind (fun v10 => (((PV.asTup v10)).bind (fun v11 => (((v11)[0]?).bind (fun v12 => (c_g_i64_s3 v12 (fun v13 v14 => (((PV.asTup v10)).bind (fun v15 => (((v15)[1]?).bind (fun v16 => (c_b v16 (fun v17 => (((wc W n_tree_May [(PV.agg [(PV.int .i64 i6), (PV.slice 3 l7)])])).bind (fun v18 => (c_b v18 (fun v19 => (bif (!(v17 == v19)) then (some (PV.bool false)) else (bif v17 then (((wc W n_roadbookref06_Same [(PV.agg [(PV.int .i64 v13), (PV.slice 3 v14)]), (PV.agg [(PV.int .i64 i6), (PV.slice 3 l7)])])).bind (fun v20 => (c_b v20 (fun v21 => (bif (!v21) then (some (PV.bool false)) else (J_roadbooklaw06_TreeBack_2 s5 v13 v14)))))) else (J_roadbooklaw06_TreeBack_2 s5 v13 v14))))))))))))))))))))))))) := (T9.join [1, 1, 1] _).trans (by kernel_rfl)
theorem J_roadbooklaw06_TreeBack_2_eq (s22 : ByteArray) (i23 : Int) (l24 : List PV) : J_roadbooklaw06_TreeBack_2 s22 i23 l24 =
  (((wc W n_tree_Read [(PV.str s22)])).bind (fun v25 => (((PV.asTup v25)).bind (fun v26 => (((v26)[0]?).bind (fun v27 => (c_g_i64_s3 v27 (fun v28 v29 => (((PV.asTup v25)).bind (fun v30 => (((v30)[1]?).bind (fun v31 => (c_b v31 (fun v32 => (bif (!v32) then (some (PV.bool true)) else (((wc W n_tree_May [(PV.agg [(PV.int .i64 v28), (PV.slice 3 v29)])])).bind (fun v33 => (c_b v33 (fun v34 => (bif v34 then (((wc W n_tree_Text [(PV.agg [(PV.int .i64 v28), (PV.slice 3 v29)])])).bind (fun v35 => (c_t v35 (fun v36 => (some (PV.bool ((ByteArray.toList v36) == (ByteArray.toList s22)))))))) else (some (PV.bool false)))))))))))))))))))))) := (T9.join [1, 1, 1, 1, 1] _).trans (by kernel_rfl)
theorem e_roadbooklaw06_TreeBack (a0_0 : Int) (a0_1 : List PV) (a1 : ByteArray) : wc W n_roadbooklaw06_TreeBack [(PV.agg [(PV.int .i64 a0_0), (PV.slice 3 a0_1)]), (PV.str a1)] =
  (((wc W n_roadbooklaw06_awake [])).bind (fun v1 => (c_b v1 (fun v2 => (bif (!v2) then (some (PV.bool v2)) else (((wc W n_roadbookref06_Size [(PV.agg [(PV.int .i64 a0_0), (PV.slice 3 a0_1)]), (PV.int .i64 (100 : Int))])).bind (fun v3 => (c_i64 v3 (fun v4 => (bif (decide (GT.gt v4 (100 : Int))) then (some (PV.bool v2)) else (bif (decide (GT.gt (((ByteArray.size a1) : Nat) : Int) (1000 : Int))) then (some (PV.bool v2)) else (J_roadbooklaw06_TreeBack_1 a1 a0_0 a0_1)))))))))))) := go (by kernel_rfl) (by kernel_rfl) T9 (by kernel_rfl)
noncomputable def jF10 : Jn PV := (Classical.choose (exT fi10 (fin cfg fi10))).1
noncomputable def lF10 : Ln PV := (Classical.choose (exT fi10 (fin cfg fi10))).2
theorem T10 : Tied cfg W fi10 (fin cfg fi10) jF10 lF10 := Classical.choose_spec (exT fi10 (fin cfg fi10))
noncomputable def J_roadbooklaw06_TreeAll_1 (i5 : Int) (i6 : Int) (l7 : List PV) : Option PV := jF10 [1, 1, 1] (St.mk [(0, (AV.pv (PV.int .i64 i5))), (3, (AV.pv (PV.imm 3 (PV.agg [(PV.int .i64 i6), (PV.slice 3 l7)]) 0)))] [])
noncomputable def L_roadbooklaw06_TreeAll_2 (i10 : Int) (i11 : Int) (l12 : List PV) (l13 : List PV) (b14 : Bool) (s15 : ByteArray) (i16 : Int) : Option PV := lF10 [0, 1, 0, 1, 1, 1, 1, 1, 1] 0 (St.mk [(0, (AV.pv (PV.int .i64 i10))), (3, (AV.pv (PV.imm 3 (PV.agg [(PV.int .i64 i11), (PV.slice 3 l12)]) 0))), (6, (AV.pv (PV.slice 3 l13))), (7, (AV.pv (PV.bool b14))), (8, (AV.pv (PV.str s15))), (9, (AV.pv (PV.int .i64 i16)))] [])
noncomputable def J_roadbooklaw06_TreeAll_3 (i27 : Int) (i28 : Int) (l29 : List PV) (l30 : List PV) (b31 : Bool) (s32 : ByteArray) (i33 : Int) : Option PV := jF10 [1, 0, 0, 1, 0, 0, 1, 0, 1, 1, 1, 1, 1, 1] (St.mk [(0, (AV.pv (PV.int .i64 i27))), (3, (AV.pv (PV.imm 3 (PV.agg [(PV.int .i64 i28), (PV.slice 3 l29)]) 0))), (6, (AV.pv (PV.slice 3 l30))), (7, (AV.pv (PV.bool b31))), (8, (AV.pv (PV.str s32))), (9, (AV.pv (PV.int .i64 i33)))] [])
noncomputable def L_roadbooklaw06_TreeAll_4 (i34 : Int) (i35 : Int) (l36 : List PV) (l37 : List PV) (b38 : Bool) (s39 : ByteArray) (i40 : Int) : Option PV := lF10 [0, 1, 0, 1, 1, 1, 1, 1, 1, 1] 0 (St.mk [(0, (AV.pv (PV.int .i64 i34))), (3, (AV.pv (PV.imm 3 (PV.agg [(PV.int .i64 i35), (PV.slice 3 l36)]) 0))), (6, (AV.pv (PV.slice 3 l37))), (7, (AV.pv (PV.bool b38))), (8, (AV.pv (PV.str s39))), (10, (AV.pv (PV.int .i64 i40)))] [])
noncomputable def J_roadbooklaw06_TreeAll_5 (i51 : Int) (i52 : Int) (l53 : List PV) (l54 : List PV) (b55 : Bool) (s56 : ByteArray) (i57 : Int) : Option PV := jF10 [1, 1, 0, 0, 1, 0, 0, 1, 0, 1, 1, 1, 1, 1, 1] (St.mk [(0, (AV.pv (PV.int .i64 i51))), (3, (AV.pv (PV.imm 3 (PV.agg [(PV.int .i64 i52), (PV.slice 3 l53)]) 0))), (6, (AV.pv (PV.slice 3 l54))), (7, (AV.pv (PV.bool b55))), (8, (AV.pv (PV.str s56))), (9, (AV.pv (PV.int .i64 i57)))] [])
noncomputable def L_roadbooklaw06_TreeAll_6 (i58 : Int) (i59 : Int) (l60 : List PV) (l61 : List PV) (b62 : Bool) (s63 : ByteArray) (i64 : Int) (i65 : Int) : Option PV := lF10 [0, 1, 0, 0, 1, 0, 0, 1, 0, 1, 1, 1, 1, 1, 1, 1] 0 (St.mk [(0, (AV.pv (PV.int .i64 i58))), (3, (AV.pv (PV.imm 3 (PV.agg [(PV.int .i64 i59), (PV.slice 3 l60)]) 0))), (6, (AV.pv (PV.slice 3 l61))), (7, (AV.pv (PV.bool b62))), (8, (AV.pv (PV.str s63))), (10, (AV.pv (PV.int .i64 i64))), (11, (AV.pv (PV.int .i64 i65)))] [])
theorem J_roadbooklaw06_TreeAll_1_eq (i5 : Int) (i6 : Int) (l7 : List PV) : J_roadbooklaw06_TreeAll_1 i5 i6 l7 =
  (((wc W n_tree_All [(PV.int .i64 i5)])).bind (fun v8 => (c_s3 v8 (fun v9 => (L_roadbooklaw06_TreeAll_2 i5 i6 l7 v9 false (ByteArray.mk (List.toArray [])) (0 : Int)))))) := (T10.join [1, 1, 1] _).trans (by kernel_rfl)
theorem L_roadbooklaw06_TreeAll_2_eq (i10 : Int) (i11 : Int) (l12 : List PV) (l13 : List PV) (b14 : Bool) (s15 : ByteArray) (i16 : Int) : L_roadbooklaw06_TreeAll_2 i10 i11 l12 l13 b14 s15 i16 =
  (bif (decide (i16 < (((List.length l13) : Nat) : Int))) then (bif (decide ((0 : Int) ≤ i16)) then (((l13)[(Int.toNat i16)]?).bind (fun v17 => (c_g_i64_s3 v17 (fun v18 v19 => (((wc W n_tree_May [(PV.agg [(PV.int .i64 v18), (PV.slice 3 v19)])])).bind (fun v20 => (c_b v20 (fun v21 => (bif (!v21) then (some (PV.bool false)) else (bif (decide ((0 : Int) ≤ i16)) then (((l13)[(Int.toNat i16)]?).bind (fun v22 => (c_g_i64_s3 v22 (fun v23 v24 => (((wc W n_tree_Set [(PV.agg [(PV.int .i64 v23), (PV.slice 3 v24)])])).bind (fun v25 => (c_i64 v25 (fun v26 => (bif (v26 != i10) then (some (PV.bool false)) else (J_roadbooklaw06_TreeAll_3 i10 i11 l12 l13 b14 s15 i16)))))))))) else none)))))))))) else none) else (L_roadbooklaw06_TreeAll_4 i10 i11 l12 l13 b14 s15 (0 : Int))) := (T10.loop [1, 1, 1, 1, 1, 1, 0, 1, 0] 0 _ rfl).trans (by kernel_rfl)
theorem J_roadbooklaw06_TreeAll_3_eq (i27 : Int) (i28 : Int) (l29 : List PV) (l30 : List PV) (b31 : Bool) (s32 : ByteArray) (i33 : Int) : J_roadbooklaw06_TreeAll_3 i27 i28 l29 l30 b31 s32 i33 =
  (bif (decide (GT.gt i33 (0 : Int))) then (bif (decide ((0 : Int) ≤ i33)) then (((l30)[(Int.toNat i33)]?).bind (fun v41 => (c_g_i64_s3 v41 (fun v42 v43 => (((wc W n_tree_Text [(PV.agg [(PV.int .i64 v42), (PV.slice 3 v43)])])).bind (fun v44 => (c_t v44 (fun v45 => (bif (decide ((0 : Int) ≤ (IntKind.wrap .i64 (i33 - (1 : Int) : Int)))) then (((l30)[(Int.toNat (IntKind.wrap .i64 (i33 - (1 : Int) : Int)))]?).bind (fun v46 => (c_g_i64_s3 v46 (fun v47 v48 => (((wc W n_tree_Text [(PV.agg [(PV.int .i64 v47), (PV.slice 3 v48)])])).bind (fun v49 => (c_t v49 (fun v50 => (bif ((ByteArray.toList v45) == (ByteArray.toList v50)) then (some (PV.bool false)) else (J_roadbooklaw06_TreeAll_5 i27 i28 l29 l30 b31 s32 i33)))))))))) else none))))))))) else none) else (J_roadbooklaw06_TreeAll_5 i27 i28 l29 l30 b31 s32 i33)) := (T10.join [1, 1, 1, 1, 1, 1, 0, 1, 0, 0, 1, 0, 0, 1] _).trans (by kernel_rfl)
theorem L_roadbooklaw06_TreeAll_4_eq (i34 : Int) (i35 : Int) (l36 : List PV) (l37 : List PV) (b38 : Bool) (s39 : ByteArray) (i40 : Int) : L_roadbooklaw06_TreeAll_4 i34 i35 l36 l37 b38 s39 i40 =
  (bif (decide (i40 < (((List.length l37) : Nat) : Int))) then (L_roadbooklaw06_TreeAll_6 i34 i35 l36 l37 b38 s39 i40 (0 : Int)) else (bif (decide ((0 : Int) ≤ (IntKind.wrap .i64 ((IntKind.wrap .i64 ((IntKind.wrap .i64 ((Int.tmod i34 (2 : Int)) + (Int.tmod (IntKind.wrap .i64 (Int.tdiv i34 (2 : Int))) (2 : Int)) : Int)) + (Int.tmod (IntKind.wrap .i64 (Int.tdiv i34 (4 : Int))) (2 : Int)) : Int)) + (Int.tmod (IntKind.wrap .i64 (Int.tdiv i34 (8 : Int))) (2 : Int)) : Int)))) then ((([(PV.int .i64 (0 : Int)), (PV.int .i64 (1 : Int)), (PV.int .i64 (2 : Int)), (PV.int .i64 (12 : Int)), (PV.int .i64 (120 : Int))])[(Int.toNat (IntKind.wrap .i64 ((IntKind.wrap .i64 ((IntKind.wrap .i64 ((Int.tmod i34 (2 : Int)) + (Int.tmod (IntKind.wrap .i64 (Int.tdiv i34 (2 : Int))) (2 : Int)) : Int)) + (Int.tmod (IntKind.wrap .i64 (Int.tdiv i34 (4 : Int))) (2 : Int)) : Int)) + (Int.tmod (IntKind.wrap .i64 (Int.tdiv i34 (8 : Int))) (2 : Int)) : Int)))]?).bind (fun v66 => (c_i64 v66 (fun v67 => (bif ((((List.length l37) : Nat) : Int) == v67) then (((wc W n_tree_Set [(PV.agg [(PV.int .i64 i35), (PV.slice 3 l36)])])).bind (fun v68 => (c_i64 v68 (fun v69 => (bif (b38 == (v69 == i34)) then (some (PV.bool (decide (GE.ge (((ByteArray.size s39) : Nat) : Int) (((List.length l37) : Nat) : Int))))) else (some (PV.bool false))))))) else (some (PV.bool false))))))) else none)) := (T10.loop [1, 1, 1, 1, 1, 1, 1, 0, 1, 0] 0 _ rfl).trans (by kernel_rfl)
theorem J_roadbooklaw06_TreeAll_5_eq (i51 : Int) (i52 : Int) (l53 : List PV) (l54 : List PV) (b55 : Bool) (s56 : ByteArray) (i57 : Int) : J_roadbooklaw06_TreeAll_5 i51 i52 l53 l54 b55 s56 i57 =
  (bif (decide ((0 : Int) ≤ i57)) then (((l54)[(Int.toNat i57)]?).bind (fun v70 => (c_g_i64_s3 v70 (fun v71 v72 => (((wc W n_tree_Text [(PV.agg [(PV.int .i64 v71), (PV.slice 3 v72)])])).bind (fun v73 => (c_t v73 (fun v74 => (((bif (decide (((ByteArray.size s56) + (ByteArray.size v74) : Nat) ≤ 9223372036854775807)) then (some (PV.str (s56 ++ v74))) else none)).bind (fun v75 => (c_t v75 (fun v76 => (((bif (decide (((ByteArray.size v76) + 1 : Nat) ≤ 9223372036854775807)) then (some (PV.str (v76 ++ (ByteArray.mk (List.toArray [(32 : UInt8)]))))) else none)).bind (fun v77 => (c_t v77 (fun v78 => (bif b55 then (L_roadbooklaw06_TreeAll_2 i51 i52 l53 l54 true v78 (IntKind.wrap .i64 (i57 + (1 : Int) : Int))) else (bif (decide ((0 : Int) ≤ i57)) then (((l54)[(Int.toNat i57)]?).bind (fun v79 => (c_g_i64_s3 v79 (fun v80 v81 => (((wc W n_tree_Same [(PV.agg [(PV.int .i64 v80), (PV.slice 3 v81)]), (PV.agg [(PV.int .i64 i52), (PV.slice 3 l53)])])).bind (fun v82 => (c_b v82 (fun v83 => (L_roadbooklaw06_TreeAll_2 i51 i52 l53 l54 v83 v78 (IntKind.wrap .i64 (i57 + (1 : Int) : Int))))))))))) else none)))))))))))))))))) else none) := (T10.join [1, 1, 1, 1, 1, 1, 0, 1, 0, 0, 1, 0, 0, 1, 1] _).trans (by kernel_rfl)
theorem L_roadbooklaw06_TreeAll_6_eq (i58 : Int) (i59 : Int) (l60 : List PV) (l61 : List PV) (b62 : Bool) (s63 : ByteArray) (i64 : Int) (i65 : Int) : L_roadbooklaw06_TreeAll_6 i58 i59 l60 l61 b62 s63 i64 i65 =
  (bif (decide (i65 < i64)) then (bif (decide ((0 : Int) ≤ i64)) then (((l61)[(Int.toNat i64)]?).bind (fun v84 => (c_g_i64_s3 v84 (fun v85 v86 => (bif (decide ((0 : Int) ≤ i65)) then (((l61)[(Int.toNat i65)]?).bind (fun v87 => (c_g_i64_s3 v87 (fun v88 v89 => (((wc W n_tree_Same [(PV.agg [(PV.int .i64 v85), (PV.slice 3 v86)]), (PV.agg [(PV.int .i64 v88), (PV.slice 3 v89)])])).bind (fun v90 => (c_b v90 (fun v91 => (bif v91 then (some (PV.bool false)) else (L_roadbooklaw06_TreeAll_6 i58 i59 l60 l61 b62 s63 i64 (IntKind.wrap .i64 (i65 + (1 : Int) : Int)))))))))))) else none))))) else none) else (L_roadbooklaw06_TreeAll_4 i58 i59 l60 l61 b62 s63 (IntKind.wrap .i64 (i64 + (1 : Int) : Int)))) := (T10.loop [1, 1, 1, 1, 1, 1, 1, 0, 1, 0, 0, 1, 0, 0, 1, 0] 0 _ rfl).trans (by kernel_rfl)
theorem e_roadbooklaw06_TreeAll (a0 : Int) (a1_0 : Int) (a1_1 : List PV) : wc W n_roadbooklaw06_TreeAll [(PV.int .i64 a0), (PV.agg [(PV.int .i64 a1_0), (PV.slice 3 a1_1)])] =
  (((wc W n_roadbooklaw06_awake [])).bind (fun v1 => (c_b v1 (fun v2 => (bif (!v2) then (some (PV.bool v2)) else (bif (decide (a0 < (1 : Int))) then (some (PV.bool v2)) else (bif (decide (GT.gt a0 (15 : Int))) then (some (PV.bool v2)) else (((wc W n_roadbookref06_Size [(PV.agg [(PV.int .i64 a1_0), (PV.slice 3 a1_1)]), (PV.int .i64 (100 : Int))])).bind (fun v3 => (c_i64 v3 (fun v4 => (bif (decide (GT.gt v4 (100 : Int))) then (some (PV.bool v2)) else (J_roadbooklaw06_TreeAll_1 a0 a1_0 a1_1))))))))))))) := go (by kernel_rfl) (by kernel_rfl) T10 (by kernel_rfl)
noncomputable def jF11 : Jn PV := (Classical.choose (exT fi11 (fin cfg fi11))).1
noncomputable def lF11 : Ln PV := (Classical.choose (exT fi11 (fin cfg fi11))).2
theorem T11 : Tied cfg W fi11 (fin cfg fi11) jF11 lF11 := Classical.choose_spec (exT fi11 (fin cfg fi11))
noncomputable def J_roadbooklaw06_TreeJoin_1 (i7 : Int) (l8 : List PV) (i9 : Int) (l10 : List PV) : Option PV := jF11 [1, 1, 1] (St.mk [(2, (AV.pv (PV.imm 3 (PV.agg [(PV.int .i64 i7), (PV.slice 3 l8)]) 0))), (3, (AV.pv (PV.imm 3 (PV.agg [(PV.int .i64 i9), (PV.slice 3 l10)]) 0)))] [])
noncomputable def J_roadbooklaw06_TreeJoin_2 (i22 : Int) (l23 : List PV) (i24 : Int) (l25 : List PV) (i26 : Int) (i27 : Int) (i28 : Int) (l29 : List PV) : Option PV := jF11 [1, 1, 1, 1, 1, 1, 1] (St.mk [(2, (AV.pv (PV.imm 3 (PV.agg [(PV.int .i64 i22), (PV.slice 3 l23)]) 0))), (3, (AV.pv (PV.imm 3 (PV.agg [(PV.int .i64 i24), (PV.slice 3 l25)]) 0))), (6, (AV.pv (PV.int .i64 i26))), (7, (AV.pv (PV.int .i64 i27))), (8, (AV.own 0 0))] [(Ob.var false 3 (AV.pv (PV.agg [(PV.int .i64 i28), (PV.slice 3 l29)])))])
noncomputable def J_roadbooklaw06_TreeJoin_3 (i30 : Int) (l31 : List PV) (i32 : Int) (l33 : List PV) (i34 : Int) (i35 : Int) (b36 : Bool) (i37 : Int) (l38 : List PV) : Option PV := jF11 [1, 1, 1, 1, 1, 1, 1, 1] (St.mk [(2, (AV.pv (PV.imm 3 (PV.agg [(PV.int .i64 i30), (PV.slice 3 l31)]) 0))), (3, (AV.pv (PV.imm 3 (PV.agg [(PV.int .i64 i32), (PV.slice 3 l33)]) 0))), (6, (AV.pv (PV.int .i64 i34))), (7, (AV.pv (PV.int .i64 i35))), (8, (AV.own 0 0)), (9, (AV.pv (PV.bool b36)))] [(Ob.var false 3 (AV.pv (PV.agg [(PV.int .i64 i37), (PV.slice 3 l38)])))])
theorem J_roadbooklaw06_TreeJoin_1_eq (i7 : Int) (l8 : List PV) (i9 : Int) (l10 : List PV) : J_roadbooklaw06_TreeJoin_1 i7 l8 i9 l10 =
  (((wc W n_tree_Set [(PV.agg [(PV.int .i64 i7), (PV.slice 3 l8)])])).bind (fun v11 => (c_i64 v11 (fun v12 => (((wc W n_tree_Set [(PV.agg [(PV.int .i64 i9), (PV.slice 3 l10)])])).bind (fun v13 => (c_i64 v13 (fun v14 => (((wc W n_tree_Join [(PV.agg [(PV.int .i64 i7), (PV.slice 3 l8)]), (PV.agg [(PV.int .i64 i9), (PV.slice 3 l10)])])).bind (fun v15 => (c_g_i64_s3 v15 (fun v16 v17 => (((wc W n_tree_May [(PV.agg [(PV.int .i64 i7), (PV.slice 3 l8)])])).bind (fun v18 => (c_b v18 (fun v19 => (bif (!(v19 == (decide (GT.gt v12 (0 : Int))))) then (some (PV.bool false)) else (((wc W n_tree_May [(PV.agg [(PV.int .i64 i9), (PV.slice 3 l10)])])).bind (fun v20 => (c_b v20 (fun v21 => (bif (!(v21 == (decide (GT.gt v14 (0 : Int))))) then (some (PV.bool false)) else (J_roadbooklaw06_TreeJoin_2 i7 l8 i9 l10 v12 v14 v16 v17))))))))))))))))))))))) := (T11.join [1, 1, 1] _).trans (by kernel_rfl)
theorem J_roadbooklaw06_TreeJoin_2_eq (i22 : Int) (l23 : List PV) (i24 : Int) (l25 : List PV) (i26 : Int) (i27 : Int) (i28 : Int) (l29 : List PV) : J_roadbooklaw06_TreeJoin_2 i22 l23 i24 l25 i26 i27 i28 l29 =
  (bif (decide (GT.gt i26 (0 : Int))) then (bif (decide (GT.gt i27 (0 : Int))) then (J_roadbooklaw06_TreeJoin_3 i22 l23 i24 l25 i26 i27 ((IntKind.wrap .i64 (((BitVec.toNat (HAnd.hAnd (BitVec.ofInt 64 i26) (BitVec.ofInt 64 i27))) : Nat) : Int)) == (0 : Int)) i28 l29) else (J_roadbooklaw06_TreeJoin_3 i22 l23 i24 l25 i26 i27 false i28 l29)) else (J_roadbooklaw06_TreeJoin_3 i22 l23 i24 l25 i26 i27 false i28 l29)) := (T11.join [1, 1, 1, 1, 1, 1, 1] _).trans (by kernel_rfl)
theorem J_roadbooklaw06_TreeJoin_3_eq (i30 : Int) (l31 : List PV) (i32 : Int) (l33 : List PV) (i34 : Int) (i35 : Int) (b36 : Bool) (i37 : Int) (l38 : List PV) : J_roadbooklaw06_TreeJoin_3 i30 l31 i32 l33 i34 i35 b36 i37 l38 =
  (((wc W n_tree_May [(PV.agg [(PV.int .i64 i37), (PV.slice 3 l38)])])).bind (fun v39 => (c_b v39 (fun v40 => (bif (v40 == b36) then (bif (!b36) then (((wc W n_tree_Join [(PV.agg [(PV.int .i64 i30), (PV.slice 3 l31)]), (PV.agg [(PV.int .i64 i32), (PV.slice 3 l33)])])).bind (fun v41 => (c_g_i64_s3 v41 (fun v42 v43 => (((wc W n_tree_Same [(PV.agg [(PV.int .i64 i37), (PV.slice 3 l38)]), (PV.agg [(PV.int .i64 v42), (PV.slice 3 v43)])])).bind (fun v44 => (c_b v44 (fun v45 => (some (PV.bool v45)))))))))) else (((wc W n_tree_Set [(PV.agg [(PV.int .i64 i37), (PV.slice 3 l38)])])).bind (fun v46 => (c_i64 v46 (fun v47 => (bif (v47 == (IntKind.wrap .i64 (((BitVec.toNat (HOr.hOr (BitVec.ofInt 64 i34) (BitVec.ofInt 64 i35))) : Nat) : Int))) then (((wc W n_tree_Join [(PV.agg [(PV.int .i64 i30), (PV.slice 3 l31)]), (PV.agg [(PV.int .i64 i32), (PV.slice 3 l33)])])).bind (fun v48 => (c_g_i64_s3 v48 (fun v49 v50 => (((wc W n_tree_Same [(PV.agg [(PV.int .i64 i37), (PV.slice 3 l38)]), (PV.agg [(PV.int .i64 v49), (PV.slice 3 v50)])])).bind (fun v51 => (c_b v51 (fun v52 => (some (PV.bool v52)))))))))) else (some (PV.bool false)))))))) else (some (PV.bool false))))))) := (T11.join [1, 1, 1, 1, 1, 1, 1, 1] _).trans (by kernel_rfl)
theorem e_roadbooklaw06_TreeJoin (a0_0 : Int) (a0_1 : List PV) (a1_0 : Int) (a1_1 : List PV) : wc W n_roadbooklaw06_TreeJoin [(PV.agg [(PV.int .i64 a0_0), (PV.slice 3 a0_1)]), (PV.agg [(PV.int .i64 a1_0), (PV.slice 3 a1_1)])] =
  (((wc W n_roadbooklaw06_awake [])).bind (fun v1 => (c_b v1 (fun v2 => (bif (!v2) then (some (PV.bool v2)) else (((wc W n_roadbookref06_Size [(PV.agg [(PV.int .i64 a0_0), (PV.slice 3 a0_1)]), (PV.int .i64 (100 : Int))])).bind (fun v3 => (c_i64 v3 (fun v4 => (bif (decide (GT.gt v4 (100 : Int))) then (some (PV.bool v2)) else (((wc W n_roadbookref06_Size [(PV.agg [(PV.int .i64 a1_0), (PV.slice 3 a1_1)]), (PV.int .i64 (100 : Int))])).bind (fun v5 => (c_i64 v5 (fun v6 => (bif (decide (GT.gt v6 (100 : Int))) then (some (PV.bool v2)) else (J_roadbooklaw06_TreeJoin_1 a0_0 a0_1 a1_0 a1_1)))))))))))))))) := go (by kernel_rfl) (by kernel_rfl) T11 (by kernel_rfl)
noncomputable def jF12 : Jn PV := (Classical.choose (exT fi12 (fin cfg fi12))).1
noncomputable def lF12 : Ln PV := (Classical.choose (exT fi12 (fin cfg fi12))).2
theorem T12 : Tied cfg W fi12 (fin cfg fi12) jF12 lF12 := Classical.choose_spec (exT fi12 (fin cfg fi12))
noncomputable def J_roadbooklaw06_TreeParts_1 (i7 : Int) (l8 : List PV) : Option PV := jF12 [1, 1, 1] (St.mk [(1, (AV.pv (PV.imm 3 (PV.agg [(PV.int .i64 i7), (PV.slice 3 l8)]) 0)))] [])
noncomputable def J_roadbooklaw06_TreeParts_2 (i13 : Int) (l14 : List PV) : Option PV := jF12 [1, 1, 1, 1, 1] (St.mk [(1, (AV.pv (PV.imm 3 (PV.agg [(PV.int .i64 i13), (PV.slice 3 l14)]) 0)))] [])
theorem J_roadbooklaw06_TreeParts_1_eq (i7 : Int) (l8 : List PV) : J_roadbooklaw06_TreeParts_1 i7 l8 =
  (((wc W n_roadbookref06_Leaves [(PV.agg [(PV.int .i64 i7), (PV.slice 3 l8)])])).bind (fun v9 => (c_s0 v9 (fun v10 => (((wc W n_tree_Text [(PV.agg [(PV.int .i64 i7), (PV.slice 3 l8)])])).bind (fun v11 => (c_t v11 (fun v12 => (bif ((((ByteArray.size v12) : Nat) : Int) != (IntKind.wrap .i64 ((IntKind.wrap .i64 ((3 : Int) * (((List.length v10) : Nat) : Int) : Int)) - (2 : Int) : Int))) then (some (PV.bool false)) else (bif (decide ((((List.length v10) : Nat) : Int) < (1 : Int))) then (some (PV.bool false)) else (bif (decide (GT.gt (((List.length v10) : Nat) : Int) (4 : Int))) then (some (PV.bool false)) else (J_roadbooklaw06_TreeParts_2 i7 l8)))))))))))) := (T12.join [1, 1, 1] _).trans (by kernel_rfl)
theorem J_roadbooklaw06_TreeParts_2_eq (i13 : Int) (l14 : List PV) : J_roadbooklaw06_TreeParts_2 i13 l14 =
  (bif ((((List.length l14) : Nat) : Int) == (0 : Int)) then (((wc W n_tree_Leaf [(PV.int .i64 i13)])).bind (fun v15 => (c_g_i64_s3 v15 (fun v16 v17 => (((wc W n_tree_Same [(PV.agg [(PV.int .i64 i13), (PV.slice 3 l14)]), (PV.agg [(PV.int .i64 v16), (PV.slice 3 v17)])])).bind (fun v18 => (c_b v18 (fun v19 => (some (PV.bool v19)))))))))) else (((l14)[0]?).bind (fun v20 => (c_g_i64_s3 v20 (fun v21 v22 => (((wc W n_tree_Set [(PV.agg [(PV.int .i64 v21), (PV.slice 3 v22)])])).bind (fun v23 => (c_i64 v23 (fun v24 => (((l14)[1]?).bind (fun v25 => (c_g_i64_s3 v25 (fun v26 v27 => (((wc W n_tree_Set [(PV.agg [(PV.int .i64 v26), (PV.slice 3 v27)])])).bind (fun v28 => (c_i64 v28 (fun v29 => (bif (decide (GT.gt v24 (0 : Int))) then (bif (decide (GT.gt v29 (0 : Int))) then (bif ((IntKind.wrap .i64 (((BitVec.toNat (HAnd.hAnd (BitVec.ofInt 64 v24) (BitVec.ofInt 64 v29))) : Nat) : Int)) == (0 : Int)) then (((wc W n_tree_Set [(PV.agg [(PV.int .i64 i13), (PV.slice 3 l14)])])).bind (fun v30 => (c_i64 v30 (fun v31 => (bif ((IntKind.wrap .i64 (((BitVec.toNat (HOr.hOr (BitVec.ofInt 64 v24) (BitVec.ofInt 64 v29))) : Nat) : Int)) == v31) then (((l14)[0]?).bind (fun v32 => (c_g_i64_s3 v32 (fun v33 v34 => (((l14)[1]?).bind (fun v35 => (c_g_i64_s3 v35 (fun v36 v37 => (((wc W n_tree_Join [(PV.agg [(PV.int .i64 v33), (PV.slice 3 v34)]), (PV.agg [(PV.int .i64 v36), (PV.slice 3 v37)])])).bind (fun v38 => (c_g_i64_s3 v38 (fun v39 v40 => (((wc W n_tree_Same [(PV.agg [(PV.int .i64 i13), (PV.slice 3 l14)]), (PV.agg [(PV.int .i64 v39), (PV.slice 3 v40)])])).bind (fun v41 => (c_b v41 (fun v42 => (some (PV.bool v42)))))))))))))))))) else (some (PV.bool false))))))) else (some (PV.bool false))) else (some (PV.bool false))) else (some (PV.bool false)))))))))))))))))))) := (T12.join [1, 1, 1, 1, 1] _).trans (by kernel_rfl)
theorem e_roadbooklaw06_TreeParts (a0_0 : Int) (a0_1 : List PV) : wc W n_roadbooklaw06_TreeParts [(PV.agg [(PV.int .i64 a0_0), (PV.slice 3 a0_1)])] =
  (((wc W n_roadbooklaw06_awake [])).bind (fun v1 => (c_b v1 (fun v2 => (bif (!v2) then (some (PV.bool v2)) else (((wc W n_roadbookref06_Size [(PV.agg [(PV.int .i64 a0_0), (PV.slice 3 a0_1)]), (PV.int .i64 (100 : Int))])).bind (fun v3 => (c_i64 v3 (fun v4 => (bif (decide (GT.gt v4 (100 : Int))) then (some (PV.bool v2)) else (((wc W n_tree_May [(PV.agg [(PV.int .i64 a0_0), (PV.slice 3 a0_1)])])).bind (fun v5 => (c_b v5 (fun v6 => (bif (!v6) then (some (PV.bool v2)) else (J_roadbooklaw06_TreeParts_1 a0_0 a0_1)))))))))))))))) := go (by kernel_rfl) (by kernel_rfl) T12 (by kernel_rfl)
end Go.Cf

namespace Go.Cf
open Go Go.Ab
set_option linter.unusedVariables false
set_option maxRecDepth 100000
noncomputable def jF13 : Jn PV := (Classical.choose (exT fi13 (fin cfg fi13))).1
noncomputable def lF13 : Ln PV := (Classical.choose (exT fi13 (fin cfg fi13))).2
theorem T13 : Tied cfg W fi13 (fin cfg fi13) jF13 lF13 := Classical.choose_spec (exT fi13 (fin cfg fi13))
noncomputable def J_roadbooklaw06_TreeText_1 (i11 : Int) (l12 : List PV) (i13 : Int) (l14 : List PV) : Option PV := jF13 [1, 1, 1] (St.mk [(2, (AV.pv (PV.imm 3 (PV.agg [(PV.int .i64 i11), (PV.slice 3 l12)]) 0))), (3, (AV.pv (PV.imm 3 (PV.agg [(PV.int .i64 i13), (PV.slice 3 l14)]) 0)))] [])
noncomputable def J_roadbooklaw06_TreeText_2 (i28 : Int) (l29 : List PV) (i30 : Int) (l31 : List PV) : Option PV := jF13 [1, 1, 1, 1] (St.mk [(2, (AV.pv (PV.imm 3 (PV.agg [(PV.int .i64 i28), (PV.slice 3 l29)]) 0))), (3, (AV.pv (PV.imm 3 (PV.agg [(PV.int .i64 i30), (PV.slice 3 l31)]) 0)))] [])
theorem J_roadbooklaw06_TreeText_1_eq (i11 : Int) (l12 : List PV) (i13 : Int) (l14 : List PV) : J_roadbooklaw06_TreeText_1 i11 l12 i13 l14 =
  (bif ((((List.length l12) : Nat) : Int) == (2 : Int)) then (((l12)[1]?).bind (fun v15 => (c_g_i64_s3 v15 (fun v16 v17 => (((l12)[0]?).bind (fun v18 => (c_g_i64_s3 v18 (fun v19 v20 => (((wc W n_tree_Join [(PV.agg [(PV.int .i64 v16), (PV.slice 3 v17)]), (PV.agg [(PV.int .i64 v19), (PV.slice 3 v20)])])).bind (fun v21 => (c_g_i64_s3 v21 (fun v22 v23 => (((wc W n_tree_Text [(PV.agg [(PV.int .i64 v22), (PV.slice 3 v23)])])).bind (fun v24 => (c_t v24 (fun v25 => (((wc W n_tree_Text [(PV.agg [(PV.int .i64 i11), (PV.slice 3 l12)])])).bind (fun v26 => (c_t v26 (fun v27 => (bif ((ByteArray.toList v25) == (ByteArray.toList v27)) then (some (PV.bool false)) else (J_roadbooklaw06_TreeText_2 i11 l12 i13 l14)))))))))))))))))))))) else (J_roadbooklaw06_TreeText_2 i11 l12 i13 l14)) := (T13.join [1, 1, 1] _).trans (by kernel_rfl)
theorem J_roadbooklaw06_TreeText_2_eq (i28 : Int) (l29 : List PV) (i30 : Int) (l31 : List PV) : J_roadbooklaw06_TreeText_2 i28 l29 i30 l31 =
  (((wc W n_tree_Text [(PV.agg [(PV.int .i64 i28), (PV.slice 3 l29)])])).bind (fun v32 => (c_t v32 (fun v33 => (((wc W n_tree_Text [(PV.agg [(PV.int .i64 i30), (PV.slice 3 l31)])])).bind (fun v34 => (c_t v34 (fun v35 => (((wc W n_tree_Same [(PV.agg [(PV.int .i64 i28), (PV.slice 3 l29)]), (PV.agg [(PV.int .i64 i30), (PV.slice 3 l31)])])).bind (fun v36 => (c_b v36 (fun v37 => (some (PV.bool (((ByteArray.toList v33) == (ByteArray.toList v35)) == v37))))))))))))))) := (T13.join [1, 1, 1, 1] _).trans (by kernel_rfl)
theorem e_roadbooklaw06_TreeText (a0_0 : Int) (a0_1 : List PV) (a1_0 : Int) (a1_1 : List PV) : wc W n_roadbooklaw06_TreeText [(PV.agg [(PV.int .i64 a0_0), (PV.slice 3 a0_1)]), (PV.agg [(PV.int .i64 a1_0), (PV.slice 3 a1_1)])] =
  (((wc W n_roadbooklaw06_awake [])).bind (fun v1 => (c_b v1 (fun v2 => (bif (!v2) then (some (PV.bool v2)) else (((wc W n_roadbookref06_Size [(PV.agg [(PV.int .i64 a0_0), (PV.slice 3 a0_1)]), (PV.int .i64 (100 : Int))])).bind (fun v3 => (c_i64 v3 (fun v4 => (bif (decide (GT.gt v4 (100 : Int))) then (some (PV.bool v2)) else (((wc W n_roadbookref06_Size [(PV.agg [(PV.int .i64 a1_0), (PV.slice 3 a1_1)]), (PV.int .i64 (100 : Int))])).bind (fun v5 => (c_i64 v5 (fun v6 => (bif (decide (GT.gt v6 (100 : Int))) then (some (PV.bool v2)) else (((wc W n_tree_May [(PV.agg [(PV.int .i64 a0_0), (PV.slice 3 a0_1)])])).bind (fun v7 => (c_b v7 (fun v8 => (bif (!v8) then (some (PV.bool v2)) else (((wc W n_tree_May [(PV.agg [(PV.int .i64 a1_0), (PV.slice 3 a1_1)])])).bind (fun v9 => (c_b v9 (fun v10 => (bif (!v10) then (some (PV.bool v2)) else (J_roadbooklaw06_TreeText_1 a0_0 a0_1 a1_0 a1_1)))))))))))))))))))))))))) := go (by kernel_rfl) (by kernel_rfl) T13 (by kernel_rfl)
noncomputable def jF29 : Jn PV := (Classical.choose (exT fi29 (fin cfg fi29))).1
noncomputable def lF29 : Ln PV := (Classical.choose (exT fi29 (fin cfg fi29))).2
theorem T29 : Tied cfg W fi29 (fin cfg fi29) jF29 lF29 := Classical.choose_spec (exT fi29 (fin cfg fi29))
theorem e_roadbooklaw06_awake  : wc W n_roadbooklaw06_awake [] =
  (((wc W n_tree_Read [(PV.str (ByteArray.mk (List.toArray [(40 : UInt8), (40 : UInt8), (48 : UInt8), (49 : UInt8), (41 : UInt8), (50 : UInt8), (41 : UInt8)])))])).bind (fun v1 => (((PV.asTup v1)).bind (fun v2 => (((v2)[0]?).bind (fun v3 => (c_g_i64_s3 v3 (fun v4 v5 => (((PV.asTup v1)).bind (fun v6 => (((v6)[1]?).bind (fun v7 => (c_b v7 (fun v8 => (bif v8 then (((wc W n_tree_First [(PV.int .i64 (3 : Int))])).bind (fun v9 => (c_g_i64_s3 v9 (fun v10 v11 => (((wc W n_tree_Same [(PV.agg [(PV.int .i64 v4), (PV.slice 3 v5)]), (PV.agg [(PV.int .i64 v10), (PV.slice 3 v11)])])).bind (fun v12 => (c_b v12 (fun v13 => (bif v13 then (((wc W n_tree_Text [(PV.agg [(PV.int .i64 v4), (PV.slice 3 v5)])])).bind (fun v14 => (c_t v14 (fun v15 => (bif ((ByteArray.toList v15) == (ByteArray.toList (ByteArray.mk (List.toArray [(40 : UInt8), (40 : UInt8), (48 : UInt8), (49 : UInt8), (41 : UInt8), (50 : UInt8), (41 : UInt8)])))) then (((wc W n_tree_Set [(PV.agg [(PV.int .i64 v4), (PV.slice 3 v5)])])).bind (fun v16 => (c_i64 v16 (fun v17 => (bif (v17 == (7 : Int)) then (((wc W n_tree_All [(PV.int .i64 (7 : Int))])).bind (fun v18 => (c_s3 v18 (fun v19 => (bif ((((List.length v19) : Nat) : Int) == (12 : Int)) then (((wc W n_tree_Leaf [(PV.int .i64 (2 : Int))])).bind (fun v20 => (c_g_i64_s3 v20 (fun v21 v22 => (((wc W n_tree_Join [(PV.agg [(PV.int .i64 v21), (PV.slice 3 v22)]), (PV.agg [(PV.int .i64 v4), (PV.slice 3 v5)])])).bind (fun v23 => (c_g_i64_s3 v23 (fun v24 v25 => (((wc W n_tree_May [(PV.agg [(PV.int .i64 v24), (PV.slice 3 v25)])])).bind (fun v26 => (c_b v26 (fun v27 => (some (PV.bool (v27 == false))))))))))))))) else (some (PV.bool false))))))) else (some (PV.bool false))))))) else (some (PV.bool false))))))) else (some (PV.bool false))))))))))) else (some (PV.bool false))))))))))))))))) := go (by kernel_rfl) (by kernel_rfl) T29 (by kernel_rfl)
noncomputable def jF30 : Jn PV := (Classical.choose (exT fi30 (fin cfg fi30))).1
noncomputable def lF30 : Ln PV := (Classical.choose (exT fi30 (fin cfg fi30))).2
theorem T30 : Tied cfg W fi30 (fin cfg fi30) jF30 lF30 := Classical.choose_spec (exT fi30 (fin cfg fi30))
noncomputable def L_roadbookref06_Size_1 (i1 : Int) (i2 : Int) (l3 : List PV) (i4 : Int) (i5 : Int) : Option PV := lF30 [0, 1, 0, 1, 1] 0 (St.mk [(1, (AV.pv (PV.int .i64 i1))), (2, (AV.pv (PV.imm 3 (PV.agg [(PV.int .i64 i2), (PV.slice 3 l3)]) 0))), (5, (AV.pv (PV.int .i64 i4))), (6, (AV.pv (PV.int .i64 i5)))] [])
noncomputable def J_roadbookref06_Size_2 (i6 : Int) (i7 : Int) (l8 : List PV) (i9 : Int) (i10 : Int) : Option PV := jF30 [1, 0, 0, 1, 0, 1, 1] (St.mk [(1, (AV.pv (PV.int .i64 i6))), (2, (AV.pv (PV.imm 3 (PV.agg [(PV.int .i64 i7), (PV.slice 3 l8)]) 0))), (5, (AV.pv (PV.int .i64 i9))), (6, (AV.pv (PV.int .i64 i10)))] [])
theorem L_roadbookref06_Size_1_eq (i1 : Int) (i2 : Int) (l3 : List PV) (i4 : Int) (i5 : Int) : L_roadbookref06_Size_1 i1 i2 l3 i4 i5 =
  (bif (decide (i5 < (((List.length l3) : Nat) : Int))) then (bif (decide (i4 ≤ i1)) then (J_roadbookref06_Size_2 i1 i2 l3 i4 i5) else (some (PV.int .i64 i4))) else (some (PV.int .i64 i4))) := (T30.loop [1, 1, 0, 1, 0] 0 _ rfl).trans (by kernel_rfl)
theorem J_roadbookref06_Size_2_eq (i6 : Int) (i7 : Int) (l8 : List PV) (i9 : Int) (i10 : Int) : J_roadbookref06_Size_2 i6 i7 l8 i9 i10 =
  (bif (decide ((0 : Int) ≤ i10)) then (((l8)[(Int.toNat i10)]?).bind (fun v11 => (c_g_i64_s3 v11 (fun v12 v13 => (((wc W n_roadbookref06_Size [(PV.agg [(PV.int .i64 v12), (PV.slice 3 v13)]), (PV.int .i64 (IntKind.wrap .i64 (i6 - i9 : Int)))])).bind (fun v14 => (c_i64 v14 (fun v15 => (L_roadbookref06_Size_1 i6 i7 l8 (IntKind.wrap .i64 (i9 + v15 : Int)) (IntKind.wrap .i64 (i10 + (1 : Int) : Int))))))))))) else none) := (T30.join [1, 1, 0, 1, 0, 0, 1] _).trans (by kernel_rfl)
theorem e_roadbookref06_Size (a0_0 : Int) (a0_1 : List PV) (a1 : Int) : wc W n_roadbookref06_Size [(PV.agg [(PV.int .i64 a0_0), (PV.slice 3 a0_1)]), (PV.int .i64 a1)] =
  (L_roadbookref06_Size_1 a1 a0_0 a0_1 (1 : Int) (0 : Int)) := go (by kernel_rfl) (by kernel_rfl) T30 (by kernel_rfl)
noncomputable def jF31 : Jn PV := (Classical.choose (exT fi31 (fin cfg fi31))).1
noncomputable def lF31 : Ln PV := (Classical.choose (exT fi31 (fin cfg fi31))).2
theorem T31 : Tied cfg W fi31 (fin cfg fi31) jF31 lF31 := Classical.choose_spec (exT fi31 (fin cfg fi31))
noncomputable def L_tree_Read_1 (i1 : Int) (l2 : List PV) (l3 : List PV) (s4 : ByteArray) (n5 : Nat) : Option PV := lF31 [0, 1, 0, 1, 1, 1] 4 (St.mk [(2, (AV.own 0 0)), (4, (AV.view 1 0 none)), (5, (AV.view 2 0 none)), (10, (AV.own 3 0))] [(Ob.var false 3 (AV.agg [(AV.pv (PV.int .i64 i1)), (AV.nil 3)])), (Ob.row false 0 3 l2), (Ob.row false 0 0 l3), (Ob.sit s4 n5)])
noncomputable def J_tree_Read_2 (i6 : Int) (b7 : Bool) (i8 : Int) (l9 : List PV) (l10 : List PV) (s11 : ByteArray) (n12 : Nat) : Option PV := jF31 [1, 1, 1, 0, 1, 0, 1, 1, 4, 0, 1, 0, 1, 1, 1] (St.mk [(2, (AV.own 0 0)), (4, (AV.view 1 0 none)), (5, (AV.view 2 0 none)), (7, (AV.pv (PV.int IntKind.i32 i6))), (10, (AV.own 3 0)), (23, (AV.pv (PV.bool b7)))] [(Ob.var false 3 (AV.agg [(AV.pv (PV.int .i64 i8)), (AV.nil 3)])), (Ob.row false 0 3 l9), (Ob.row false 0 0 l10), (Ob.sit s11 n12)])
noncomputable def J_tree_Read_3 (i18 : Int) (l19 : List PV) (l20 : List PV) (s21 : ByteArray) (n22 : Nat) : Option PV := jF31 [1, 1, 1, 1, 1] (St.mk [(2, (AV.own 0 0)), (4, (AV.view 1 0 none))] [(Ob.var false 3 (AV.agg [(AV.pv (PV.int .i64 i18)), (AV.nil 3)])), (Ob.row false 0 3 l19), (Ob.row false 0 0 l20), (Ob.sit s21 n22)])
noncomputable def J_tree_Read_4 (b28 : Bool) (i29 : Int) (l30 : List PV) (l31 : List PV) (s32 : ByteArray) (n33 : Nat) : Option PV := jF31 [1, 1, 1, 1, 1, 0, 1, 0, 1, 1, 4, 0, 1, 0, 1, 1, 1] (St.mk [(2, (AV.own 0 0)), (4, (AV.view 1 0 none)), (5, (AV.view 2 0 none)), (10, (AV.own 3 0)), (37, (AV.pv (PV.bool b28)))] [(Ob.var false 3 (AV.agg [(AV.pv (PV.int .i64 i29)), (AV.nil 3)])), (Ob.row false 0 3 l30), (Ob.row false 0 0 l31), (Ob.sit s32 n33)])
theorem L_tree_Read_1_eq (i1 : Int) (l2 : List PV) (l3 : List PV) (s4 : ByteArray) (n5 : Nat) : L_tree_Read_1 i1 l2 l3 s4 n5 =
  (bif (decide (n5 < (ByteArray.size s4))) then (bif ((((Prod.fst (Utf8.decode s4 n5)) : Nat) : Int) == (40 : Int)) then (bif (true && (decide (((List.length l3) + 1 : Nat) ≤ 4294967296))) then (L_tree_Read_1 i1 l2 (l3 ++ [(PV.int .i64 (((List.length l2) : Nat) : Int))]) s4 (n5 + (Prod.snd (Utf8.decode s4 n5)) : Nat)) else none) else (bif (decide (GE.ge (((Prod.fst (Utf8.decode s4 n5)) : Nat) : Int) (48 : Int))) then (J_tree_Read_2 (((Prod.fst (Utf8.decode s4 n5)) : Nat) : Int) (decide ((((Prod.fst (Utf8.decode s4 n5)) : Nat) : Int) < (52 : Int))) i1 l2 l3 s4 (n5 + (Prod.snd (Utf8.decode s4 n5)) : Nat)) else (J_tree_Read_2 (((Prod.fst (Utf8.decode s4 n5)) : Nat) : Int) false i1 l2 l3 s4 (n5 + (Prod.snd (Utf8.decode s4 n5)) : Nat)))) else (bif ((((List.length l2) : Nat) : Int) != (1 : Int)) then (some (PV.tup [(PV.agg [(PV.int .i64 (0 : Int)), (PV.slice 3 [])]), (PV.bool false)])) else (bif (decide (GT.gt (((List.length l3) : Nat) : Int) (0 : Int))) then (some (PV.tup [(PV.agg [(PV.int .i64 (0 : Int)), (PV.slice 3 [])]), (PV.bool false)])) else (bif (true && (decide ((0 : Int) < (((List.length l2) : Nat) : Int)))) then (((l2)[0]?).bind (fun v13 => (c_g_i64_s3 v13 (fun v14 v15 => (((wc W n_tree_May [(PV.agg [(PV.int .i64 v14), (PV.slice 3 v15)])])).bind (fun v16 => (c_b v16 (fun v17 => (bif (!v17) then (some (PV.tup [(PV.agg [(PV.int .i64 (0 : Int)), (PV.slice 3 [])]), (PV.bool false)])) else (J_tree_Read_3 i1 l2 l3 s4 n5)))))))))) else none)))) := (T31.loop [1, 1, 1, 0, 1, 0] 4 _ rfl).trans (by kernel_rfl)
theorem J_tree_Read_2_eq (i6 : Int) (b7 : Bool) (i8 : Int) (l9 : List PV) (l10 : List PV) (s11 : ByteArray) (n12 : Nat) : J_tree_Read_2 i6 b7 i8 l9 l10 s11 n12 =
  (bif b7 then (((wc W n_tree_Leaf [(PV.int .i64 (IntKind.wrap .i64 (IntKind.wrap .i32 (i6 - (48 : Int) : Int))))])).bind (fun v23 => (c_g_i64_s3 v23 (fun v24 v25 => (bif (true && (decide (((List.length l9) + 1 : Nat) ≤ 4294967296))) then (L_tree_Read_1 i8 (l9 ++ [(PV.agg [(PV.int .i64 v24), (PV.slice 3 v25)])]) l10 s11 n12) else none))))) else (bif (i6 == (41 : Int)) then (bif (decide (GT.gt (((List.length l10) : Nat) : Int) (0 : Int))) then (bif ((true && (decide ((0 : Int) ≤ (IntKind.wrap .i64 ((((List.length l10) : Nat) : Int) - (1 : Int) : Int))))) && (decide ((IntKind.wrap .i64 ((((List.length l10) : Nat) : Int) - (1 : Int) : Int)) < (((List.length l10) : Nat) : Int)))) then (((l10)[(0 + (Int.toNat (IntKind.wrap .i64 ((((List.length l10) : Nat) : Int) - (1 : Int) : Int))) : Nat)]?).bind (fun v26 => (c_i64 v26 (fun v27 => (J_tree_Read_4 ((((List.length l9) : Nat) : Int) == (IntKind.wrap .i64 (v27 + (2 : Int) : Int))) i8 l9 l10 s11 n12))))) else none) else (J_tree_Read_4 false i8 l9 l10 s11 n12)) else (J_tree_Read_4 false i8 l9 l10 s11 n12))) := (T31.join [1, 1, 1, 0, 1, 0, 4, 1, 1, 0, 1, 0, 1, 1, 1] _).trans (by kernel_rfl)
theorem J_tree_Read_3_eq (i18 : Int) (l19 : List PV) (l20 : List PV) (s21 : ByteArray) (n22 : Nat) : J_tree_Read_3 i18 l19 l20 s21 n22 =
  (bif (true && (decide ((0 : Int) < (((List.length l19) : Nat) : Int)))) then (((l19)[0]?).bind (fun v34 => (c_g_i64_s3 v34 (fun v35 v36 => (some (PV.tup [(PV.agg [(PV.int .i64 v35), (PV.slice 3 v36)]), (PV.bool true)])))))) else none) := (T31.join [1, 1, 1, 1, 1] _).trans (by kernel_rfl)
theorem J_tree_Read_4_eq (b28 : Bool) (i29 : Int) (l30 : List PV) (l31 : List PV) (s32 : ByteArray) (n33 : Nat) : J_tree_Read_4 b28 i29 l30 l31 s32 n33 =
  (bif b28 then (bif ((true && (decide ((0 : Int) ≤ (IntKind.wrap .i64 ((((List.length l30) : Nat) : Int) - (2 : Int) : Int))))) && (decide ((IntKind.wrap .i64 ((((List.length l30) : Nat) : Int) - (2 : Int) : Int)) ≤ (((List.length l30) : Nat) : Int)))) then (bif ((true && (decide ((0 : Int) ≤ (IntKind.wrap .i64 ((((List.length l30) : Nat) : Int) - (2 : Int) : Int))))) && (decide ((IntKind.wrap .i64 ((((List.length l30) : Nat) : Int) - (2 : Int) : Int)) < (((List.length l30) : Nat) : Int)))) then (((l30)[(0 + (Int.toNat (IntKind.wrap .i64 ((((List.length l30) : Nat) : Int) - (2 : Int) : Int))) : Nat)]?).bind (fun v37 => (c_g_i64_s3 v37 (fun v38 v39 => (bif ((true && (decide ((0 : Int) ≤ (IntKind.wrap .i64 ((IntKind.wrap .i64 ((((List.length l30) : Nat) : Int) - (2 : Int) : Int)) + (1 : Int) : Int))))) && (decide ((IntKind.wrap .i64 ((IntKind.wrap .i64 ((((List.length l30) : Nat) : Int) - (2 : Int) : Int)) + (1 : Int) : Int)) < (((List.length l30) : Nat) : Int)))) then (((l30)[(0 + (Int.toNat (IntKind.wrap .i64 ((IntKind.wrap .i64 ((((List.length l30) : Nat) : Int) - (2 : Int) : Int)) + (1 : Int) : Int))) : Nat)]?).bind (fun v40 => (c_g_i64_s3 v40 (fun v41 v42 => (((wc W n_tree_Join [(PV.agg [(PV.int .i64 v38), (PV.slice 3 v39)]), (PV.agg [(PV.int .i64 v41), (PV.slice 3 v42)])])).bind (fun v43 => (c_g_i64_s3 v43 (fun v44 v45 => (bif (true && (decide (((List.length (AV.sub l30 (some (0, ((Int.toNat (IntKind.wrap .i64 ((((List.length l30) : Nat) : Int) - (2 : Int) : Int))) - 0 : Nat))))) + 1 : Nat) ≤ 4294967296))) then (bif ((true && (decide ((0 : Int) ≤ (IntKind.wrap .i64 ((((List.length l31) : Nat) : Int) - (1 : Int) : Int))))) && (decide ((IntKind.wrap .i64 ((((List.length l31) : Nat) : Int) - (1 : Int) : Int)) ≤ (((List.length l31) : Nat) : Int)))) then (L_tree_Read_1 i29 ((List.take ((Int.toNat (IntKind.wrap .i64 ((((List.length l30) : Nat) : Int) - (2 : Int) : Int))) - 0 : Nat) l30) ++ [(PV.agg [(PV.int .i64 v44), (PV.slice 3 v45)])]) (List.take ((Int.toNat (IntKind.wrap .i64 ((((List.length l31) : Nat) : Int) - (1 : Int) : Int))) - 0 : Nat) l31) s32 n33) else none) else none))))))))) else none))))) else none) else none) else (some (PV.tup [(PV.agg [(PV.int .i64 (0 : Int)), (PV.slice 3 [])]), (PV.bool false)]))) := (T31.join [1, 1, 1, 0, 1, 0, 4, 1, 1, 0, 1, 0, 1, 1, 1, 1, 1] _).trans (by kernel_rfl)
theorem e_tree_Read (a0 : ByteArray) : wc W n_tree_Read [(PV.str a0)] =
  (L_tree_Read_1 (0 : Int) [] [] a0 0) := go (by kernel_rfl) (by kernel_rfl) T31 (by kernel_rfl)
noncomputable def jF32 : Jn PV := (Classical.choose (exT fi32 (fin cfg fi32))).1
noncomputable def lF32 : Ln PV := (Classical.choose (exT fi32 (fin cfg fi32))).2
theorem T32 : Tied cfg W fi32 (fin cfg fi32) jF32 lF32 := Classical.choose_spec (exT fi32 (fin cfg fi32))
theorem e_roadbookref06_Read (a0 : ByteArray) : wc W n_roadbookref06_Read [(PV.str a0)] =
  (((wc W n_roadbookref06_part [(PV.str a0), (PV.int .i64 (1 : Int))])).bind (fun v1 => (((PV.asTup v1)).bind (fun v2 => (((v2)[0]?).bind (fun v3 => (c_g_i64_s3 v3 (fun v4 v5 => (((PV.asTup v1)).bind (fun v6 => (((v6)[1]?).bind (fun v7 => (c_i64 v7 (fun v8 => (((wc W n_roadbookref06_May [(PV.agg [(PV.int .i64 v4), (PV.slice 3 v5)])])).bind (fun v9 => (c_b v9 (fun v10 => (bif (v8 == (0 : Int)) then (some (PV.tup [(PV.agg [(PV.int .i64 (0 : Int)), (PV.slice 3 [])]), (PV.bool false)])) else (bif (v8 != (((ByteArray.size a0) : Nat) : Int)) then (some (PV.tup [(PV.agg [(PV.int .i64 (0 : Int)), (PV.slice 3 [])]), (PV.bool false)])) else (bif (!v10) then (some (PV.tup [(PV.agg [(PV.int .i64 (0 : Int)), (PV.slice 3 [])]), (PV.bool false)])) else (some (PV.tup [(PV.agg [(PV.int .i64 v4), (PV.slice 3 v5)]), (PV.bool true)]))))))))))))))))))))))) := go (by kernel_rfl) (by kernel_rfl) T32 (by kernel_rfl)
noncomputable def jF33 : Jn PV := (Classical.choose (exT fi33 (fin cfg fi33))).1
noncomputable def lF33 : Ln PV := (Classical.choose (exT fi33 (fin cfg fi33))).2
theorem T33 : Tied cfg W fi33 (fin cfg fi33) jF33 lF33 := Classical.choose_spec (exT fi33 (fin cfg fi33))
theorem e_tree_May (a0_0 : Int) (a0_1 : List PV) : wc W n_tree_May [(PV.agg [(PV.int .i64 a0_0), (PV.slice 3 a0_1)])] =
  (((wc W n_tree_set [(PV.agg [(PV.int .i64 a0_0), (PV.slice 3 a0_1)]), (PV.int .i64 (4 : Int))])).bind (fun v1 => (((PV.asTup v1)).bind (fun v2 => (((v2)[0]?).bind (fun v3 => (c_i64 v3 (fun v4 => (((PV.asTup v1)).bind (fun v5 => (((v5)[1]?).bind (fun v6 => (c_b v6 (fun v7 => (some (PV.bool v7)))))))))))))))) := go (by kernel_rfl) (by kernel_rfl) T33 (by kernel_rfl)
noncomputable def jF34 : Jn PV := (Classical.choose (exT fi34 (fin cfg fi34))).1
noncomputable def lF34 : Ln PV := (Classical.choose (exT fi34 (fin cfg fi34))).2
theorem T34 : Tied cfg W fi34 (fin cfg fi34) jF34 lF34 := Classical.choose_spec (exT fi34 (fin cfg fi34))
noncomputable def L_roadbookref06_May_1 (l8 : List PV) (b9 : Bool) (i10 : Int) : Option PV := lF34 [0, 1, 0, 1, 1] 0 (St.mk [(3, (AV.pv (PV.slice 0 l8))), (4, (AV.pv (PV.bool b9))), (5, (AV.pv (PV.int .i64 i10)))] [])
noncomputable def L_roadbookref06_May_2 (l11 : List PV) (b12 : Bool) (i13 : Int) (i14 : Int) : Option PV := lF34 [0, 1, 0, 0, 1, 0, 0, 1, 0, 1, 1] 0 (St.mk [(3, (AV.pv (PV.slice 0 l11))), (4, (AV.pv (PV.bool b12))), (5, (AV.pv (PV.int .i64 i13))), (6, (AV.pv (PV.int .i64 i14)))] [])
theorem L_roadbookref06_May_1_eq (l8 : List PV) (b9 : Bool) (i10 : Int) : L_roadbookref06_May_1 l8 b9 i10 =
  (bif (decide (i10 < (((List.length l8) : Nat) : Int))) then (L_roadbookref06_May_2 l8 b9 i10 (0 : Int)) else (some (PV.bool b9))) := (T34.loop [1, 1, 0, 1, 0] 0 _ rfl).trans (by kernel_rfl)
theorem L_roadbookref06_May_2_eq (l11 : List PV) (b12 : Bool) (i13 : Int) (i14 : Int) : L_roadbookref06_May_2 l11 b12 i13 i14 =
  (bif (decide (i14 < i13)) then (bif (decide ((0 : Int) ≤ i14)) then (((l11)[(Int.toNat i14)]?).bind (fun v15 => (c_i64 v15 (fun v16 => (bif (decide ((0 : Int) ≤ i13)) then (((l11)[(Int.toNat i13)]?).bind (fun v17 => (c_i64 v17 (fun v18 => (bif (v16 == v18) then (some (PV.bool false)) else (L_roadbookref06_May_2 l11 b12 i13 (IntKind.wrap .i64 (i14 + (1 : Int) : Int)))))))) else none))))) else none) else (L_roadbookref06_May_1 l11 b12 (IntKind.wrap .i64 (i13 + (1 : Int) : Int)))) := (T34.loop [1, 1, 0, 1, 0, 0, 1, 0, 0, 1, 0] 0 _ rfl).trans (by kernel_rfl)
theorem e_roadbookref06_May (a0_0 : Int) (a0_1 : List PV) : wc W n_roadbookref06_May [(PV.agg [(PV.int .i64 a0_0), (PV.slice 3 a0_1)])] =
  (((wc W n_roadbookref06_leaves [(PV.agg [(PV.int .i64 a0_0), (PV.slice 3 a0_1)]), (PV.int .i64 (1 : Int))])).bind (fun v1 => (((PV.asTup v1)).bind (fun v2 => (((v2)[0]?).bind (fun v3 => (c_s0 v3 (fun v4 => (((PV.asTup v1)).bind (fun v5 => (((v5)[1]?).bind (fun v6 => (c_b v6 (fun v7 => (L_roadbookref06_May_1 v4 v7 (0 : Int)))))))))))))))) := go (by kernel_rfl) (by kernel_rfl) T34 (by kernel_rfl)
noncomputable def jF35 : Jn PV := (Classical.choose (exT fi35 (fin cfg fi35))).1
noncomputable def lF35 : Ln PV := (Classical.choose (exT fi35 (fin cfg fi35))).2
theorem T35 : Tied cfg W fi35 (fin cfg fi35) jF35 lF35 := Classical.choose_spec (exT fi35 (fin cfg fi35))
theorem e_tree_Set (a0_0 : Int) (a0_1 : List PV) : wc W n_tree_Set [(PV.agg [(PV.int .i64 a0_0), (PV.slice 3 a0_1)])] =
  (((wc W n_tree_set [(PV.agg [(PV.int .i64 a0_0), (PV.slice 3 a0_1)]), (PV.int .i64 (4 : Int))])).bind (fun v1 => (((PV.asTup v1)).bind (fun v2 => (((v2)[0]?).bind (fun v3 => (c_i64 v3 (fun v4 => (((PV.asTup v1)).bind (fun v5 => (((v5)[1]?).bind (fun v6 => (c_b v6 (fun v7 => (bif (!v7) then (some (PV.int .i64 (0 : Int))) else (some (PV.int .i64 v4))))))))))))))))) := go (by kernel_rfl) (by kernel_rfl) T35 (by kernel_rfl)
noncomputable def jF36 : Jn PV := (Classical.choose (exT fi36 (fin cfg fi36))).1
noncomputable def lF36 : Ln PV := (Classical.choose (exT fi36 (fin cfg fi36))).2
theorem T36 : Tied cfg W fi36 (fin cfg fi36) jF36 lF36 := Classical.choose_spec (exT fi36 (fin cfg fi36))
noncomputable def L_roadbookref06_Set_1 (l5 : List PV) (l6 : List PV) (i7 : Int) (i8 : Int) : Option PV := lF36 [0, 1, 0, 1, 1, 1, 1, 1, 1] 0 (St.mk [(4, (AV.pv (PV.slice 0 l5))), (5, (AV.pv (PV.slice 0 l6))), (6, (AV.pv (PV.int .i64 i7))), (7, (AV.pv (PV.int .i64 i8)))] [])
theorem L_roadbookref06_Set_1_eq (l5 : List PV) (l6 : List PV) (i7 : Int) (i8 : Int) : L_roadbookref06_Set_1 l5 l6 i7 i8 =
  (bif (decide (i8 < (((List.length l5) : Nat) : Int))) then (bif (decide ((0 : Int) ≤ i8)) then (((l5)[(Int.toNat i8)]?).bind (fun v9 => (c_i64 v9 (fun v10 => (bif (decide ((0 : Int) ≤ v10)) then (((l6)[(Int.toNat v10)]?).bind (fun v11 => (c_i64 v11 (fun v12 => (L_roadbookref06_Set_1 l5 l6 (IntKind.wrap .i64 (i7 + v12 : Int)) (IntKind.wrap .i64 (i8 + (1 : Int) : Int))))))) else none))))) else none) else (some (PV.int .i64 i7))) := (T36.loop [1, 1, 1, 1, 1, 1, 0, 1, 0] 0 _ rfl).trans (by kernel_rfl)
theorem e_roadbookref06_Set (a0_0 : Int) (a0_1 : List PV) : wc W n_roadbookref06_Set [(PV.agg [(PV.int .i64 a0_0), (PV.slice 3 a0_1)])] =
  (((wc W n_roadbookref06_May [(PV.agg [(PV.int .i64 a0_0), (PV.slice 3 a0_1)])])).bind (fun v1 => (c_b v1 (fun v2 => (bif (!v2) then (some (PV.int .i64 (0 : Int))) else (((wc W n_roadbookref06_Leaves [(PV.agg [(PV.int .i64 a0_0), (PV.slice 3 a0_1)])])).bind (fun v3 => (c_s0 v3 (fun v4 => (L_roadbookref06_Set_1 v4 [(PV.int .i64 (1 : Int)), (PV.int .i64 (2 : Int)), (PV.int .i64 (4 : Int)), (PV.int .i64 (8 : Int))] (0 : Int) (0 : Int))))))))))) := go (by kernel_rfl) (by kernel_rfl) T36 (by kernel_rfl)
noncomputable def jF37 : Jn PV := (Classical.choose (exT fi37 (fin cfg fi37))).1
noncomputable def lF37 : Ln PV := (Classical.choose (exT fi37 (fin cfg fi37))).2
theorem T37 : Tied cfg W fi37 (fin cfg fi37) jF37 lF37 := Classical.choose_spec (exT fi37 (fin cfg fi37))
theorem e_tree_Text (a0_0 : Int) (a0_1 : List PV) : wc W n_tree_Text [(PV.agg [(PV.int .i64 a0_0), (PV.slice 3 a0_1)])] =
  (((wc W n_tree_May [(PV.agg [(PV.int .i64 a0_0), (PV.slice 3 a0_1)])])).bind (fun v1 => (c_b v1 (fun v2 => (bif (!v2) then (some (PV.str (ByteArray.mk (List.toArray [])))) else (((wc W n_tree_text [(PV.agg [(PV.int .i64 a0_0), (PV.slice 3 a0_1)])])).bind (fun v3 => (c_t v3 (fun v4 => (some (PV.str v4))))))))))) := go (by kernel_rfl) (by kernel_rfl) T37 (by kernel_rfl)
noncomputable def jF38 : Jn PV := (Classical.choose (exT fi38 (fin cfg fi38))).1
noncomputable def lF38 : Ln PV := (Classical.choose (exT fi38 (fin cfg fi38))).2
theorem T38 : Tied cfg W fi38 (fin cfg fi38) jF38 lF38 := Classical.choose_spec (exT fi38 (fin cfg fi38))
theorem e_roadbookref06_Text (a0_0 : Int) (a0_1 : List PV) : wc W n_roadbookref06_Text [(PV.agg [(PV.int .i64 a0_0), (PV.slice 3 a0_1)])] =
  (((wc W n_roadbookref06_May [(PV.agg [(PV.int .i64 a0_0), (PV.slice 3 a0_1)])])).bind (fun v1 => (c_b v1 (fun v2 => (bif (!v2) then (some (PV.str (ByteArray.mk (List.toArray [])))) else (bif ((((List.length a0_1) : Nat) : Int) == (0 : Int)) then (some (PV.str (strOfInts [(IntKind.wrap .u8 (IntKind.wrap .i64 ((48 : Int) + a0_0 : Int)))]))) else (((a0_1)[0]?).bind (fun v3 => (c_g_i64_s3 v3 (fun v4 v5 => (((wc W n_roadbookref06_Text [(PV.agg [(PV.int .i64 v4), (PV.slice 3 v5)])])).bind (fun v6 => (c_t v6 (fun v7 => (((bif (decide ((1 + (ByteArray.size v7) : Nat) ≤ 9223372036854775807)) then (some (PV.str ((ByteArray.mk (List.toArray [(40 : UInt8)])) ++ v7))) else none)).bind (fun v8 => (c_t v8 (fun v9 => (((a0_1)[1]?).bind (fun v10 => (c_g_i64_s3 v10 (fun v11 v12 => (((wc W n_roadbookref06_Text [(PV.agg [(PV.int .i64 v11), (PV.slice 3 v12)])])).bind (fun v13 => (c_t v13 (fun v14 => (((bif (decide (((ByteArray.size v9) + (ByteArray.size v14) : Nat) ≤ 9223372036854775807)) then (some (PV.str (v9 ++ v14))) else none)).bind (fun v15 => (c_t v15 (fun v16 => (((bif (decide (((ByteArray.size v16) + 1 : Nat) ≤ 9223372036854775807)) then (some (PV.str (v16 ++ (ByteArray.mk (List.toArray [(41 : UInt8)]))))) else none)).bind (fun v17 => (c_t v17 (fun v18 => (some (PV.str v18)))))))))))))))))))))))))))))))))))) := go (by kernel_rfl) (by kernel_rfl) T38 (by kernel_rfl)
noncomputable def jF39 : Jn PV := (Classical.choose (exT fi39 (fin cfg fi39))).1
noncomputable def lF39 : Ln PV := (Classical.choose (exT fi39 (fin cfg fi39))).2
theorem T39 : Tied cfg W fi39 (fin cfg fi39) jF39 lF39 := Classical.choose_spec (exT fi39 (fin cfg fi39))
theorem e_tree_Same (a0_0 : Int) (a0_1 : List PV) (a1_0 : Int) (a1_1 : List PV) : wc W n_tree_Same [(PV.agg [(PV.int .i64 a0_0), (PV.slice 3 a0_1)]), (PV.agg [(PV.int .i64 a1_0), (PV.slice 3 a1_1)])] =
  (bif (a0_0 == a1_0) then (((wc W n_slices_EqualFunc_api_Tree_api_Tree_api_Tree_api_Tree [(PV.slice 3 a0_1), (PV.slice 3 a1_1), (PV.fn n_tree_Same [] [])])).bind (fun v1 => (c_b v1 (fun v2 => (some (PV.bool v2)))))) else (some (PV.bool false))) := go (by kernel_rfl) (by kernel_rfl) T39 (by kernel_rfl)
noncomputable def jF40 : Jn PV := (Classical.choose (exT fi40 (fin cfg fi40))).1
noncomputable def lF40 : Ln PV := (Classical.choose (exT fi40 (fin cfg fi40))).2
theorem T40 : Tied cfg W fi40 (fin cfg fi40) jF40 lF40 := Classical.choose_spec (exT fi40 (fin cfg fi40))
noncomputable def J_roadbookref06_Same_1 (i1 : Int) (l2 : List PV) (i3 : Int) (l4 : List PV) : Option PV := jF40 [1, 1] (St.mk [(2, (AV.pv (PV.imm 3 (PV.agg [(PV.int .i64 i1), (PV.slice 3 l2)]) 0))), (3, (AV.pv (PV.imm 3 (PV.agg [(PV.int .i64 i3), (PV.slice 3 l4)]) 0)))] [])
noncomputable def L_roadbookref06_Same_2 (i5 : Int) (l6 : List PV) (i7 : Int) (l8 : List PV) (i9 : Int) : Option PV := lF40 [0, 1, 0, 1, 1] 0 (St.mk [(2, (AV.pv (PV.imm 3 (PV.agg [(PV.int .i64 i5), (PV.slice 3 l6)]) 0))), (3, (AV.pv (PV.imm 3 (PV.agg [(PV.int .i64 i7), (PV.slice 3 l8)]) 0))), (5, (AV.pv (PV.int .i64 i9)))] [])
theorem J_roadbookref06_Same_1_eq (i1 : Int) (l2 : List PV) (i3 : Int) (l4 : List PV) : J_roadbookref06_Same_1 i1 l2 i3 l4 =
  (L_roadbookref06_Same_2 i1 l2 i3 l4 (0 : Int)) := (T40.join [1, 1] _).trans (by kernel_rfl)
theorem L_roadbookref06_Same_2_eq (i5 : Int) (l6 : List PV) (i7 : Int) (l8 : List PV) (i9 : Int) : L_roadbookref06_Same_2 i5 l6 i7 l8 i9 =
  (bif (decide (i9 < (((List.length l6) : Nat) : Int))) then (bif (decide ((0 : Int) ≤ i9)) then (((l6)[(Int.toNat i9)]?).bind (fun v10 => (c_g_i64_s3 v10 (fun v11 v12 => (bif (decide ((0 : Int) ≤ i9)) then (((l8)[(Int.toNat i9)]?).bind (fun v13 => (c_g_i64_s3 v13 (fun v14 v15 => (((wc W n_roadbookref06_Same [(PV.agg [(PV.int .i64 v11), (PV.slice 3 v12)]), (PV.agg [(PV.int .i64 v14), (PV.slice 3 v15)])])).bind (fun v16 => (c_b v16 (fun v17 => (bif (!v17) then (some (PV.bool false)) else (L_roadbookref06_Same_2 i5 l6 i7 l8 (IntKind.wrap .i64 (i9 + (1 : Int) : Int)))))))))))) else none))))) else none) else (some (PV.bool true))) := (T40.loop [1, 1, 0, 1, 0] 0 _ rfl).trans (by kernel_rfl)
theorem e_roadbookref06_Same (a0_0 : Int) (a0_1 : List PV) (a1_0 : Int) (a1_1 : List PV) : wc W n_roadbookref06_Same [(PV.agg [(PV.int .i64 a0_0), (PV.slice 3 a0_1)]), (PV.agg [(PV.int .i64 a1_0), (PV.slice 3 a1_1)])] =
  (bif (a0_0 != a1_0) then (some (PV.bool false)) else (bif ((((List.length a0_1) : Nat) : Int) != (((List.length a1_1) : Nat) : Int)) then (some (PV.bool false)) else (J_roadbookref06_Same_1 a0_0 a0_1 a1_0 a1_1))) := go (by kernel_rfl) (by kernel_rfl) T40 (by kernel_rfl)
noncomputable def jF41 : Jn PV := (Classical.choose (exT fi41 (fin cfg fi41))).1
noncomputable def lF41 : Ln PV := (Classical.choose (exT fi41 (fin cfg fi41))).2
theorem T41 : Tied cfg W fi41 (fin cfg fi41) jF41 lF41 := Classical.choose_spec (exT fi41 (fin cfg fi41))
noncomputable def J_tree_First_1 (i1 : Int) (i2 : Int) : Option PV := jF41 [1, 1] (St.mk [(0, (AV.pv (PV.int .i64 i1))), (2, (AV.own 0 0))] [(Ob.var false 3 (AV.agg [(AV.pv (PV.int .i64 i2)), (AV.nil 3)]))])
noncomputable def L_tree_First_2 (i6 : Int) (i7 : Int) (i8 : Int) (i9 : Int) (l10 : List PV) : Option PV := lF41 [0, 1, 0, 1, 1, 1] 2 (St.mk [(0, (AV.pv (PV.int .i64 i6))), (2, (AV.own 0 0)), (3, (AV.own 1 0)), (4, (AV.pv (PV.int .i64 i7)))] [(Ob.var false 3 (AV.agg [(AV.pv (PV.int .i64 i8)), (AV.nil 3)])), (Ob.var false 3 (AV.pv (PV.agg [(PV.int .i64 i9), (PV.slice 3 l10)])))])
theorem J_tree_First_1_eq (i1 : Int) (i2 : Int) : J_tree_First_1 i1 i2 =
  (((wc W n_tree_Leaf [(PV.int .i64 (0 : Int))])).bind (fun v3 => (c_g_i64_s3 v3 (fun v4 v5 => (L_tree_First_2 i1 (1 : Int) i2 v4 v5))))) := (T41.join [1, 1] _).trans (by kernel_rfl)
theorem L_tree_First_2_eq (i6 : Int) (i7 : Int) (i8 : Int) (i9 : Int) (l10 : List PV) : L_tree_First_2 i6 i7 i8 i9 l10 =
  (bif (decide (i7 < i6)) then (((wc W n_tree_Leaf [(PV.int .i64 i7)])).bind (fun v11 => (c_g_i64_s3 v11 (fun v12 v13 => (((wc W n_tree_Join [(PV.agg [(PV.int .i64 i9), (PV.slice 3 l10)]), (PV.agg [(PV.int .i64 v12), (PV.slice 3 v13)])])).bind (fun v14 => (c_g_i64_s3 v14 (fun v15 v16 => (L_tree_First_2 i6 (IntKind.wrap .i64 (i7 + (1 : Int) : Int)) i8 v15 v16))))))))) else (some (PV.agg [(PV.int .i64 i9), (PV.slice 3 l10)]))) := (T41.loop [1, 1, 1, 0, 1, 0] 2 _ rfl).trans (by kernel_rfl)
theorem e_tree_First (a0 : Int) : wc W n_tree_First [(PV.int .i64 a0)] =
  (bif (decide (a0 < (1 : Int))) then (some (PV.agg [(PV.int .i64 (0 : Int)), (PV.slice 3 [])])) else (bif (decide (GT.gt a0 (4 : Int))) then (some (PV.agg [(PV.int .i64 (0 : Int)), (PV.slice 3 [])])) else (J_tree_First_1 a0 (0 : Int)))) := go (by kernel_rfl) (by kernel_rfl) T41 (by kernel_rfl)
noncomputable def jF42 : Jn PV := (Classical.choose (exT fi42 (fin cfg fi42))).1
noncomputable def lF42 : Ln PV := (Classical.choose (exT fi42 (fin cfg fi42))).2
theorem T42 : Tied cfg W fi42 (fin cfg fi42) jF42 lF42 := Classical.choose_spec (exT fi42 (fin cfg fi42))
noncomputable def J_roadbookref06_First_1 (i1 : Int) (l2 : List PV) (i3 : Int) : Option PV := jF42 [1, 1, 1] (St.mk [(0, (AV.pv (PV.int .i64 i1))), (2, (AV.own 0 0)), (3, (AV.pv (PV.slice 0 l2)))] [(Ob.var false 3 (AV.agg [(AV.pv (PV.int .i64 i3)), (AV.nil 3)]))])
theorem J_roadbookref06_First_1_eq (i1 : Int) (l2 : List PV) (i3 : Int) : J_roadbookref06_First_1 i1 l2 i3 =
  (bif (decide ((0 : Int) ≤ (IntKind.wrap .i64 (i1 - (1 : Int) : Int)))) then (((l2)[(Int.toNat (IntKind.wrap .i64 (i1 - (1 : Int) : Int)))]?).bind (fun v4 => (c_t v4 (fun v5 => (((wc W n_roadbookref06_Read [(PV.str v5)])).bind (fun v6 => (((PV.asTup v6)).bind (fun v7 => (((v7)[0]?).bind (fun v8 => (c_g_i64_s3 v8 (fun v9 v10 => (((PV.asTup v6)).bind (fun v11 => (((v11)[1]?).bind (fun v12 => (c_b v12 (fun v13 => (some (PV.agg [(PV.int .i64 v9), (PV.slice 3 v10)])))))))))))))))))))) else none) := (T42.join [1, 1, 1] _).trans (by kernel_rfl)
theorem e_roadbookref06_First (a0 : Int) : wc W n_roadbookref06_First [(PV.int .i64 a0)] =
  (bif (decide (a0 < (1 : Int))) then (some (PV.agg [(PV.int .i64 (0 : Int)), (PV.slice 3 [])])) else (bif (decide (GT.gt a0 (4 : Int))) then (some (PV.agg [(PV.int .i64 (0 : Int)), (PV.slice 3 [])])) else (J_roadbookref06_First_1 a0 [(PV.str (ByteArray.mk (List.toArray [(48 : UInt8)]))), (PV.str (ByteArray.mk (List.toArray [(40 : UInt8), (48 : UInt8), (49 : UInt8), (41 : UInt8)]))), (PV.str (ByteArray.mk (List.toArray [(40 : UInt8), (40 : UInt8), (48 : UInt8), (49 : UInt8), (41 : UInt8), (50 : UInt8), (41 : UInt8)]))), (PV.str (ByteArray.mk (List.toArray [(40 : UInt8), (40 : UInt8), (40 : UInt8), (48 : UInt8), (49 : UInt8), (41 : UInt8), (50 : UInt8), (41 : UInt8), (51 : UInt8), (41 : UInt8)])))] (0 : Int)))) := go (by kernel_rfl) (by kernel_rfl) T42 (by kernel_rfl)
noncomputable def jF43 : Jn PV := (Classical.choose (exT fi43 (fin cfg fi43))).1
noncomputable def lF43 : Ln PV := (Classical.choose (exT fi43 (fin cfg fi43))).2
theorem T43 : Tied cfg W fi43 (fin cfg fi43) jF43 lF43 := Classical.choose_spec (exT fi43 (fin cfg fi43))
theorem e_tree_Leaf (a0 : Int) : wc W n_tree_Leaf [(PV.int .i64 a0)] =
  (some (PV.agg [(PV.int .i64 a0), (PV.slice 3 [])])) := go (by kernel_rfl) (by kernel_rfl) T43 (by kernel_rfl)
end Go.Cf

namespace Go.Cf
open Go Go.Ab
set_option linter.unusedVariables false
set_option maxRecDepth 100000
noncomputable def jF44 : Jn PV := (Classical.choose (exT fi44 (fin cfg fi44))).1
noncomputable def lF44 : Ln PV := (Classical.choose (exT fi44 (fin cfg fi44))).2
theorem T44 : Tied cfg W fi44 (fin cfg fi44) jF44 lF44 := Classical.choose_spec (exT fi44 (fin cfg fi44))
theorem e_tree_Join (a0_0 : Int) (a0_1 : List PV) (a1_0 : Int) (a1_1 : List PV) : wc W n_tree_Join [(PV.agg [(PV.int .i64 a0_0), (PV.slice 3 a0_1)]), (PV.agg [(PV.int .i64 a1_0), (PV.slice 3 a1_1)])] =
  (some (PV.agg [(PV.int .i64 (0 : Int)), (PV.slice 3 [(PV.agg [(PV.int .i64 a0_0), (PV.slice 3 a0_1)]), (PV.agg [(PV.int .i64 a1_0), (PV.slice 3 a1_1)])])])) := go (by kernel_rfl) (by kernel_rfl) T44 (by kernel_rfl)
noncomputable def jF45 : Jn PV := (Classical.choose (exT fi45 (fin cfg fi45))).1
noncomputable def lF45 : Ln PV := (Classical.choose (exT fi45 (fin cfg fi45))).2
theorem T45 : Tied cfg W fi45 (fin cfg fi45) jF45 lF45 := Classical.choose_spec (exT fi45 (fin cfg fi45))
theorem e_roadbookref06_Join (a0_0 : Int) (a0_1 : List PV) (a1_0 : Int) (a1_1 : List PV) : wc W n_roadbookref06_Join [(PV.agg [(PV.int .i64 a0_0), (PV.slice 3 a0_1)]), (PV.agg [(PV.int .i64 a1_0), (PV.slice 3 a1_1)])] =
  (some (PV.agg [(PV.int .i64 (0 : Int)), (PV.slice 3 [(PV.agg [(PV.int .i64 a0_0), (PV.slice 3 a0_1)]), (PV.agg [(PV.int .i64 a1_0), (PV.slice 3 a1_1)])])])) := go (by kernel_rfl) (by kernel_rfl) T45 (by kernel_rfl)
noncomputable def jF46 : Jn PV := (Classical.choose (exT fi46 (fin cfg fi46))).1
noncomputable def lF46 : Ln PV := (Classical.choose (exT fi46 (fin cfg fi46))).2
theorem T46 : Tied cfg W fi46 (fin cfg fi46) jF46 lF46 := Classical.choose_spec (exT fi46 (fin cfg fi46))
noncomputable def L_roadbookref06_Lists_1 (l1 : List PV) (l2 : List PV) (i3 : Int) : Option PV := lF46 [0, 1, 0, 1, 1] 0 (St.mk [(0, (AV.pv (PV.slice 3 l1))), (1, (AV.pv (PV.slice 3 l2))), (5, (AV.pv (PV.int .i64 i3)))] [])
theorem L_roadbookref06_Lists_1_eq (l1 : List PV) (l2 : List PV) (i3 : Int) : L_roadbookref06_Lists_1 l1 l2 i3 =
  (bif (decide (i3 < (((List.length l1) : Nat) : Int))) then (bif (decide ((0 : Int) ≤ i3)) then (((l1)[(Int.toNat i3)]?).bind (fun v4 => (c_g_i64_s3 v4 (fun v5 v6 => (bif (decide ((0 : Int) ≤ i3)) then (((l2)[(Int.toNat i3)]?).bind (fun v7 => (c_g_i64_s3 v7 (fun v8 v9 => (((wc W n_roadbookref06_Same [(PV.agg [(PV.int .i64 v5), (PV.slice 3 v6)]), (PV.agg [(PV.int .i64 v8), (PV.slice 3 v9)])])).bind (fun v10 => (c_b v10 (fun v11 => (bif (!v11) then (some (PV.bool false)) else (L_roadbookref06_Lists_1 l1 l2 (IntKind.wrap .i64 (i3 + (1 : Int) : Int)))))))))))) else none))))) else none) else (some (PV.bool true))) := (T46.loop [1, 1, 0, 1, 0] 0 _ rfl).trans (by kernel_rfl)
theorem e_roadbookref06_Lists (a0 : List PV) (a1 : List PV) : wc W n_roadbookref06_Lists [(PV.slice 3 a0), (PV.slice 3 a1)] =
  (bif ((((List.length a0) : Nat) : Int) != (((List.length a1) : Nat) : Int)) then (some (PV.bool false)) else (L_roadbookref06_Lists_1 a0 a1 (0 : Int))) := go (by kernel_rfl) (by kernel_rfl) T46 (by kernel_rfl)
noncomputable def jF47 : Jn PV := (Classical.choose (exT fi47 (fin cfg fi47))).1
noncomputable def lF47 : Ln PV := (Classical.choose (exT fi47 (fin cfg fi47))).2
theorem T47 : Tied cfg W fi47 (fin cfg fi47) jF47 lF47 := Classical.choose_spec (exT fi47 (fin cfg fi47))
noncomputable def J_tree_All_1 (i1 : Int) : Option PV := jF47 [1, 1] (St.mk [(0, (AV.pv (PV.int .i64 i1)))] [])
noncomputable def L_tree_All_2 (i2 : Int) (i3 : Int) (l4 : List PV) : Option PV := lF47 [0, 1, 0, 1, 1, 1] 1 (St.mk [(0, (AV.pv (PV.int .i64 i2))), (3, (AV.view 0 0 none)), (16, (AV.pv (PV.int .i64 i3)))] [(Ob.row false 0 3 l4)])
noncomputable def L_tree_All_3 (i10 : Int) (i11 : Int) (l12 : List PV) : Option PV := lF47 [0, 1, 0, 1, 1, 1, 1] 1 (St.mk [(0, (AV.pv (PV.int .i64 i10))), (3, (AV.view 0 0 none)), (5, (AV.pv (PV.int .i64 i11)))] [(Ob.row false 0 3 l12)])
noncomputable def L_tree_All_4 (i15 : Int) (i16 : Int) (l17 : List PV) (i18 : Int) (i19 : Int) (l20 : List PV) : Option PV := lF47 [0, 1, 1, 0, 0, 1, 1, 0, 1, 0, 1, 1, 1, 1] 1 (St.mk [(0, (AV.pv (PV.int .i64 i15))), (3, (AV.view 0 0 none)), (5, (AV.pv (PV.int .i64 i16))), (40, (AV.pv (PV.slice 3 l17))), (41, (AV.pv (PV.int .i64 i18))), (42, (AV.pv (PV.int .i64 i19)))] [(Ob.row false 0 3 l20)])
noncomputable def L_tree_All_5 (i26 : Int) (i27 : Int) (l28 : List PV) (i29 : Int) (i30 : Int) (l31 : List PV) (i32 : Int) (i33 : Int) (l34 : List PV) (i35 : Int) (l36 : List PV) : Option PV := lF47 [0, 1, 1, 0, 0, 1, 1, 1, 0, 1, 1, 0, 0, 1, 1, 0, 1, 0, 1, 1, 1, 1] 2 (St.mk [(0, (AV.pv (PV.int .i64 i26))), (3, (AV.view 0 0 none)), (5, (AV.pv (PV.int .i64 i27))), (7, (AV.own 1 0)), (40, (AV.pv (PV.slice 3 l28))), (41, (AV.pv (PV.int .i64 i29))), (42, (AV.pv (PV.int .i64 i30))), (49, (AV.pv (PV.slice 3 l31))), (50, (AV.pv (PV.int .i64 i32))), (51, (AV.pv (PV.int .i64 i33)))] [(Ob.row false 0 3 l34), (Ob.var false 3 (AV.pv (PV.agg [(PV.int .i64 i35), (PV.slice 3 l36)])))])
theorem J_tree_All_1_eq (i1 : Int) : J_tree_All_1 i1 =
  (L_tree_All_2 i1 (0 : Int) []) := (T47.join [1, 1] _).trans (by kernel_rfl)
theorem L_tree_All_2_eq (i2 : Int) (i3 : Int) (l4 : List PV) : L_tree_All_2 i2 i3 l4 =
  (bif (decide (i3 < (4 : Int))) then (((bif (decide (i3 < (0 : Int))) then none else (some (PV.int .i64 (IntKind.wrap .i64 ((1 : Int) * (HPow.hPow (2 : Int) (Min.min (Int.toNat i3) 64)) : Int)))))).bind (fun v5 => (c_i64 v5 (fun v6 => (bif (i2 == v6) then (((wc W n_tree_Leaf [(PV.int .i64 i3)])).bind (fun v7 => (c_g_i64_s3 v7 (fun v8 v9 => (bif (true && (decide (((List.length l4) + 1 : Nat) ≤ 4294967296))) then (L_tree_All_2 i2 (IntKind.wrap .i64 (i3 + (1 : Int) : Int)) (l4 ++ [(PV.agg [(PV.int .i64 v8), (PV.slice 3 v9)])])) else none))))) else (L_tree_All_2 i2 (IntKind.wrap .i64 (i3 + (1 : Int) : Int)) l4)))))) else (L_tree_All_3 i2 (1 : Int) l4)) := (T47.loop [1, 1, 1, 0, 1, 0] 1 _ rfl).trans (by kernel_rfl)
theorem L_tree_All_3_eq (i10 : Int) (i11 : Int) (l12 : List PV) : L_tree_All_3 i10 i11 l12 =
  (bif (decide (i11 < i10)) then (bif ((IntKind.wrap .i64 (((BitVec.toNat (HAnd.hAnd (BitVec.ofInt 64 i11) (BitVec.ofInt 64 i10))) : Nat) : Int)) != i11) then (L_tree_All_3 i10 (IntKind.wrap .i64 (i11 + (1 : Int) : Int)) l12) else (((wc W n_tree_All [(PV.int .i64 i11)])).bind (fun v13 => (c_s3 v13 (fun v14 => (L_tree_All_4 i10 i11 v14 (((List.length v14) : Nat) : Int) (0 : Int) l12)))))) else (some (PV.slice 3 l12))) := (T47.loop [1, 1, 1, 1, 0, 1, 0] 1 _ rfl).trans (by kernel_rfl)
theorem L_tree_All_4_eq (i15 : Int) (i16 : Int) (l17 : List PV) (i18 : Int) (i19 : Int) (l20 : List PV) : L_tree_All_4 i15 i16 l17 i18 i19 l20 =
  (bif (decide (i19 < i18)) then (bif (decide ((0 : Int) ≤ i19)) then (((l17)[(Int.toNat i19)]?).bind (fun v21 => (c_g_i64_s3 v21 (fun v22 v23 => (((wc W n_tree_All [(PV.int .i64 (IntKind.wrap .i64 (i15 - i16 : Int)))])).bind (fun v24 => (c_s3 v24 (fun v25 => (L_tree_All_5 i15 i16 l17 i18 i19 v25 (((List.length v25) : Nat) : Int) (0 : Int) l20 v22 v23))))))))) else none) else (L_tree_All_3 i15 (IntKind.wrap .i64 (i16 + (1 : Int) : Int)) l20)) := (T47.loop [1, 1, 1, 1, 0, 1, 0, 1, 1, 0, 0, 1, 1, 0] 1 _ rfl).trans (by kernel_rfl)
theorem L_tree_All_5_eq (i26 : Int) (i27 : Int) (l28 : List PV) (i29 : Int) (i30 : Int) (l31 : List PV) (i32 : Int) (i33 : Int) (l34 : List PV) (i35 : Int) (l36 : List PV) : L_tree_All_5 i26 i27 l28 i29 i30 l31 i32 i33 l34 i35 l36 =
  (bif (decide (i33 < i32)) then (bif (decide ((0 : Int) ≤ i33)) then (((l31)[(Int.toNat i33)]?).bind (fun v37 => (c_g_i64_s3 v37 (fun v38 v39 => (((wc W n_tree_Join [(PV.agg [(PV.int .i64 i35), (PV.slice 3 l36)]), (PV.agg [(PV.int .i64 v38), (PV.slice 3 v39)])])).bind (fun v40 => (c_g_i64_s3 v40 (fun v41 v42 => (bif (true && (decide (((List.length l34) + 1 : Nat) ≤ 4294967296))) then (L_tree_All_5 i26 i27 l28 i29 i30 l31 i32 (IntKind.wrap .i64 (i33 + (1 : Int) : Int)) (l34 ++ [(PV.agg [(PV.int .i64 v41), (PV.slice 3 v42)])]) i35 l36) else none))))))))) else none) else (L_tree_All_4 i26 i27 l28 i29 (IntKind.wrap .i64 (i30 + (1 : Int) : Int)) l34)) := (T47.loop [1, 1, 1, 1, 0, 1, 0, 1, 1, 0, 0, 1, 1, 0, 1, 1, 1, 0, 0, 1, 1, 0] 2 _ rfl).trans (by kernel_rfl)
theorem e_tree_All (a0 : Int) : wc W n_tree_All [(PV.int .i64 a0)] =
  (bif (decide (a0 < (1 : Int))) then (some (PV.slice 3 [])) else (bif (decide (GE.ge a0 (16 : Int))) then (some (PV.slice 3 [])) else (J_tree_All_1 a0))) := go (by kernel_rfl) (by kernel_rfl) T47 (by kernel_rfl)
noncomputable def jF48 : Jn PV := (Classical.choose (exT fi48 (fin cfg fi48))).1
noncomputable def lF48 : Ln PV := (Classical.choose (exT fi48 (fin cfg fi48))).2
theorem T48 : Tied cfg W fi48 (fin cfg fi48) jF48 lF48 := Classical.choose_spec (exT fi48 (fin cfg fi48))
noncomputable def J_roadbookref06_All_1 (i1 : Int) : Option PV := jF48 [1, 1] (St.mk [(0, (AV.pv (PV.int .i64 i1)))] [])
noncomputable def L_roadbookref06_All_2 (i4 : Int) (i5 : Int) : Option PV := lF48 [0, 1, 0, 1, 0, 1, 0, 1, 1] 0 (St.mk [(3, (AV.pv (PV.int .i64 i4))), (4, (AV.pv (PV.int .i64 i5)))] [])
noncomputable def L_roadbookref06_All_3 (i6 : Int) (i7 : Int) (l8 : List PV) : Option PV := lF48 [0, 1, 0, 1, 1, 1, 1] 1 (St.mk [(0, (AV.pv (PV.int .i64 i6))), (5, (AV.view 0 0 none)), (6, (AV.pv (PV.int .i64 i7)))] [(Ob.row false 0 3 l8)])
noncomputable def J_roadbookref06_All_4 (i9 : Int) (i10 : Int) (l11 : List PV) : Option PV := jF48 [1, 0, 0, 1, 1, 0, 1, 0, 1, 1, 1, 1] (St.mk [(0, (AV.pv (PV.int .i64 i9))), (5, (AV.view 0 0 none)), (6, (AV.pv (PV.int .i64 i10)))] [(Ob.row false 0 3 l11)])
noncomputable def L_roadbookref06_All_5 (i16 : Int) (i17 : Int) (l18 : List PV) (l19 : List PV) (i20 : Int) (l21 : List PV) : Option PV := lF48 [0, 1, 1, 1, 1, 0, 0, 1, 1, 0, 1, 0, 1, 1, 1, 1] 1 (St.mk [(0, (AV.pv (PV.int .i64 i16))), (5, (AV.view 0 0 none)), (6, (AV.pv (PV.int .i64 i17))), (7, (AV.pv (PV.slice 3 l18))), (8, (AV.pv (PV.slice 3 l19))), (9, (AV.pv (PV.int .i64 i20)))] [(Ob.row false 0 3 l21)])
noncomputable def L_roadbookref06_All_6 (i22 : Int) (i23 : Int) (l24 : List PV) (l25 : List PV) (i26 : Int) (i27 : Int) (l28 : List PV) : Option PV := lF48 [0, 1, 0, 0, 1, 1, 0, 1, 1, 1, 1, 0, 0, 1, 1, 0, 1, 0, 1, 1, 1, 1] 1 (St.mk [(0, (AV.pv (PV.int .i64 i22))), (5, (AV.view 0 0 none)), (6, (AV.pv (PV.int .i64 i23))), (7, (AV.pv (PV.slice 3 l24))), (8, (AV.pv (PV.slice 3 l25))), (9, (AV.pv (PV.int .i64 i26))), (10, (AV.pv (PV.int .i64 i27)))] [(Ob.row false 0 3 l28)])
theorem J_roadbookref06_All_1_eq (i1 : Int) : J_roadbookref06_All_1 i1 =
  (((wc W n_roadbookref06_many [(PV.int .i64 i1)])).bind (fun v2 => (c_i64 v2 (fun v3 => (bif (v3 == (1 : Int)) then (L_roadbookref06_All_2 (0 : Int) i1) else (L_roadbookref06_All_3 i1 (1 : Int) [])))))) := (T48.join [1, 1] _).trans (by kernel_rfl)
theorem L_roadbookref06_All_2_eq (i4 : Int) (i5 : Int) : L_roadbookref06_All_2 i4 i5 =
  (bif (decide (GT.gt i5 (1 : Int))) then (L_roadbookref06_All_2 (IntKind.wrap .i64 (i4 + (1 : Int) : Int)) (IntKind.wrap .i64 (Int.tdiv i5 (2 : Int)))) else (some (PV.slice 3 [(PV.agg [(PV.int .i64 i4), (PV.slice 3 [])])]))) := (T48.loop [1, 1, 0, 1, 0, 1, 0, 1, 0] 0 _ rfl).trans (by kernel_rfl)
theorem L_roadbookref06_All_3_eq (i6 : Int) (i7 : Int) (l8 : List PV) : L_roadbookref06_All_3 i6 i7 l8 =
  (bif (decide (i7 < (15 : Int))) then (bif ((IntKind.wrap .i64 (((BitVec.toNat (HAnd.hAnd (BitVec.ofInt 64 i7) (BitVec.ofInt 64 i6))) : Nat) : Int)) != i7) then (L_roadbookref06_All_3 i6 (IntKind.wrap .i64 (i7 + (1 : Int) : Int)) l8) else (bif (i7 == i6) then (L_roadbookref06_All_3 i6 (IntKind.wrap .i64 (i7 + (1 : Int) : Int)) l8) else (J_roadbookref06_All_4 i6 i7 l8))) else (some (PV.slice 3 l8))) := (T48.loop [1, 1, 1, 1, 0, 1, 0] 1 _ rfl).trans (by kernel_rfl)
theorem J_roadbookref06_All_4_eq (i9 : Int) (i10 : Int) (l11 : List PV) : J_roadbookref06_All_4 i9 i10 l11 =
  (((wc W n_roadbookref06_All [(PV.int .i64 i10)])).bind (fun v12 => (c_s3 v12 (fun v13 => (((wc W n_roadbookref06_All [(PV.int .i64 (IntKind.wrap .i64 (i9 - i10 : Int)))])).bind (fun v14 => (c_s3 v14 (fun v15 => (L_roadbookref06_All_5 i9 i10 v13 v15 (0 : Int) l11))))))))) := (T48.join [1, 1, 1, 1, 0, 1, 0, 1, 1, 0, 0, 1] _).trans (by kernel_rfl)
theorem L_roadbookref06_All_5_eq (i16 : Int) (i17 : Int) (l18 : List PV) (l19 : List PV) (i20 : Int) (l21 : List PV) : L_roadbookref06_All_5 i16 i17 l18 l19 i20 l21 =
  (bif (decide (i20 < (((List.length l18) : Nat) : Int))) then (L_roadbookref06_All_6 i16 i17 l18 l19 i20 (0 : Int) l21) else (L_roadbookref06_All_3 i16 (IntKind.wrap .i64 (i17 + (1 : Int) : Int)) l21)) := (T48.loop [1, 1, 1, 1, 0, 1, 0, 1, 1, 0, 0, 1, 1, 1, 1, 0] 1 _ rfl).trans (by kernel_rfl)
theorem L_roadbookref06_All_6_eq (i22 : Int) (i23 : Int) (l24 : List PV) (l25 : List PV) (i26 : Int) (i27 : Int) (l28 : List PV) : L_roadbookref06_All_6 i22 i23 l24 l25 i26 i27 l28 =
  (bif (decide (i27 < (((List.length l25) : Nat) : Int))) then (bif (decide ((0 : Int) ≤ i26)) then (((l24)[(Int.toNat i26)]?).bind (fun v29 => (c_g_i64_s3 v29 (fun v30 v31 => (bif (decide ((0 : Int) ≤ i27)) then (((l25)[(Int.toNat i27)]?).bind (fun v32 => (c_g_i64_s3 v32 (fun v33 v34 => (((wc W n_roadbookref06_Join [(PV.agg [(PV.int .i64 v30), (PV.slice 3 v31)]), (PV.agg [(PV.int .i64 v33), (PV.slice 3 v34)])])).bind (fun v35 => (c_g_i64_s3 v35 (fun v36 v37 => (bif (true && (decide (((List.length l28) + 1 : Nat) ≤ 4294967296))) then (L_roadbookref06_All_6 i22 i23 l24 l25 i26 (IntKind.wrap .i64 (i27 + (1 : Int) : Int)) (l28 ++ [(PV.agg [(PV.int .i64 v36), (PV.slice 3 v37)])])) else none))))))))) else none))))) else none) else (L_roadbookref06_All_5 i22 i23 l24 l25 (IntKind.wrap .i64 (i26 + (1 : Int) : Int)) l28)) := (T48.loop [1, 1, 1, 1, 0, 1, 0, 1, 1, 0, 0, 1, 1, 1, 1, 0, 1, 1, 0, 0, 1, 0] 1 _ rfl).trans (by kernel_rfl)
theorem e_roadbookref06_All (a0 : Int) : wc W n_roadbookref06_All [(PV.int .i64 a0)] =
  (bif (decide (a0 < (1 : Int))) then (some (PV.slice 3 [])) else (bif (decide (GT.gt a0 (15 : Int))) then (some (PV.slice 3 [])) else (J_roadbookref06_All_1 a0))) := go (by kernel_rfl) (by kernel_rfl) T48 (by kernel_rfl)
noncomputable def jF49 : Jn PV := (Classical.choose (exT fi49 (fin cfg fi49))).1
noncomputable def lF49 : Ln PV := (Classical.choose (exT fi49 (fin cfg fi49))).2
theorem T49 : Tied cfg W fi49 (fin cfg fi49) jF49 lF49 := Classical.choose_spec (exT fi49 (fin cfg fi49))
theorem e_roadbookref06_Leaves (a0_0 : Int) (a0_1 : List PV) : wc W n_roadbookref06_Leaves [(PV.agg [(PV.int .i64 a0_0), (PV.slice 3 a0_1)])] =
  (((wc W n_roadbookref06_leaves [(PV.agg [(PV.int .i64 a0_0), (PV.slice 3 a0_1)]), (PV.int .i64 (1 : Int))])).bind (fun v1 => (((PV.asTup v1)).bind (fun v2 => (((v2)[0]?).bind (fun v3 => (c_s0 v3 (fun v4 => (((PV.asTup v1)).bind (fun v5 => (((v5)[1]?).bind (fun v6 => (c_b v6 (fun v7 => (some (PV.slice 0 v4)))))))))))))))) := go (by kernel_rfl) (by kernel_rfl) T49 (by kernel_rfl)
noncomputable def jF85 : Jn PV := (Classical.choose (exT fi85 (fin cfg fi85))).1
noncomputable def lF85 : Ln PV := (Classical.choose (exT fi85 (fin cfg fi85))).2
theorem T85 : Tied cfg W fi85 (fin cfg fi85) jF85 lF85 := Classical.choose_spec (exT fi85 (fin cfg fi85))
noncomputable def J_roadbookref06_part_1 (s1 : ByteArray) (i2 : Int) (i3 : Int) : Option PV := jF85 [1, 1] (St.mk [(0, (AV.pv (PV.str s1))), (1, (AV.pv (PV.int .i64 i2))), (4, (AV.own 0 0))] [(Ob.var false 3 (AV.agg [(AV.pv (PV.int .i64 i3)), (AV.nil 3)]))])
noncomputable def J_roadbookref06_part_2 (s6 : ByteArray) (i7 : Int) (b8 : Bool) (i9 : Int) : Option PV := jF85 [1, 0, 1, 1] (St.mk [(0, (AV.pv (PV.str s6))), (1, (AV.pv (PV.int .i64 i7))), (4, (AV.own 0 0)), (25, (AV.pv (PV.bool b8)))] [(Ob.var false 3 (AV.agg [(AV.pv (PV.int .i64 i9)), (AV.nil 3)]))])
noncomputable def J_roadbookref06_part_3 (i29 : Int) (i30 : Int) (i31 : Int) (i32 : Int) (l33 : List PV) (i34 : Int) (l35 : List PV) : Option PV := jF85 [1, 1, 1, 1, 1, 1, 1, 1] (St.mk [(4, (AV.own 0 0)), (6, (AV.own 1 0)), (7, (AV.pv (PV.int .i64 i29))), (8, (AV.own 2 0)), (9, (AV.pv (PV.int .i64 i30)))] [(Ob.var false 3 (AV.agg [(AV.pv (PV.int .i64 i31)), (AV.nil 3)])), (Ob.var false 3 (AV.pv (PV.agg [(PV.int .i64 i32), (PV.slice 3 l33)]))), (Ob.var false 3 (AV.pv (PV.agg [(PV.int .i64 i34), (PV.slice 3 l35)])))])
theorem J_roadbookref06_part_1_eq (s1 : ByteArray) (i2 : Int) (i3 : Int) : J_roadbookref06_part_1 s1 i2 i3 =
  (((s1)[0]?).bind (fun v4 => (bif (decide (GE.ge (((UInt8.toNat v4) : Nat) : Int) (48 : Int))) then (((s1)[0]?).bind (fun v5 => (J_roadbookref06_part_2 s1 i2 (decide ((((UInt8.toNat v5) : Nat) : Int) ≤ (51 : Int))) i3))) else (J_roadbookref06_part_2 s1 i2 false i3)))) := (T85.join [1, 1] _).trans (by kernel_rfl)
theorem J_roadbookref06_part_2_eq (s6 : ByteArray) (i7 : Int) (b8 : Bool) (i9 : Int) : J_roadbookref06_part_2 s6 i7 b8 i9 =
  (bif b8 then (((s6)[0]?).bind (fun v10 => (some (PV.tup [(PV.agg [(PV.int .i64 (IntKind.wrap .i64 ((IntKind.wrap .i64 (((UInt8.toNat v10) : Nat) : Int)) - (48 : Int) : Int))), (PV.slice 3 [])]), (PV.int .i64 (1 : Int))])))) else (((s6)[0]?).bind (fun v11 => (bif ((((UInt8.toNat v11) : Nat) : Int) != (40 : Int)) then (some (PV.tup [(PV.agg [(PV.int .i64 (0 : Int)), (PV.slice 3 [])]), (PV.int .i64 (0 : Int))])) else (bif ((true && (decide ((1 : Int) ≤ (((ByteArray.size s6) : Nat) : Int)))) && (decide ((((ByteArray.size s6) : Nat) : Int) ≤ (((ByteArray.size s6) : Nat) : Int)))) then (((wc W n_roadbookref06_part [(PV.str (ByteArray.extract s6 1 (Int.toNat (((ByteArray.size s6) : Nat) : Int)))), (PV.int .i64 (IntKind.wrap .i64 (i7 + (1 : Int) : Int)))])).bind (fun v12 => (((PV.asTup v12)).bind (fun v13 => (((v13)[0]?).bind (fun v14 => (c_g_i64_s3 v14 (fun v15 v16 => (((PV.asTup v12)).bind (fun v17 => (((v17)[1]?).bind (fun v18 => (c_i64 v18 (fun v19 => (bif (v19 == (0 : Int)) then (some (PV.tup [(PV.agg [(PV.int .i64 (0 : Int)), (PV.slice 3 [])]), (PV.int .i64 (0 : Int))])) else (bif (((true && (decide ((0 : Int) ≤ (IntKind.wrap .i64 ((1 : Int) + v19 : Int))))) && (decide ((IntKind.wrap .i64 ((1 : Int) + v19 : Int)) ≤ (((ByteArray.size s6) : Nat) : Int)))) && (decide ((((ByteArray.size s6) : Nat) : Int) ≤ (((ByteArray.size s6) : Nat) : Int)))) then (((wc W n_roadbookref06_part [(PV.str (ByteArray.extract s6 (Int.toNat (IntKind.wrap .i64 ((1 : Int) + v19 : Int))) (Int.toNat (((ByteArray.size s6) : Nat) : Int)))), (PV.int .i64 (IntKind.wrap .i64 (i7 + (1 : Int) : Int)))])).bind (fun v20 => (((PV.asTup v20)).bind (fun v21 => (((v21)[0]?).bind (fun v22 => (c_g_i64_s3 v22 (fun v23 v24 => (((PV.asTup v20)).bind (fun v25 => (((v25)[1]?).bind (fun v26 => (c_i64 v26 (fun v27 => (bif (v27 == (0 : Int)) then (some (PV.tup [(PV.agg [(PV.int .i64 (0 : Int)), (PV.slice 3 [])]), (PV.int .i64 (0 : Int))])) else (bif (decide (GE.ge (IntKind.wrap .i64 ((IntKind.wrap .i64 ((1 : Int) + v19 : Int)) + v27 : Int)) (((ByteArray.size s6) : Nat) : Int))) then (some (PV.tup [(PV.agg [(PV.int .i64 (0 : Int)), (PV.slice 3 [])]), (PV.int .i64 (0 : Int))])) else (bif (decide ((0 : Int) ≤ (IntKind.wrap .i64 ((IntKind.wrap .i64 ((1 : Int) + v19 : Int)) + v27 : Int)))) then (((s6)[(Int.toNat (IntKind.wrap .i64 ((IntKind.wrap .i64 ((1 : Int) + v19 : Int)) + v27 : Int)))]?).bind (fun v28 => (bif ((((UInt8.toNat v28) : Nat) : Int) != (41 : Int)) then (some (PV.tup [(PV.agg [(PV.int .i64 (0 : Int)), (PV.slice 3 [])]), (PV.int .i64 (0 : Int))])) else (J_roadbookref06_part_3 v19 v27 i9 v15 v16 v23 v24)))) else none))))))))))))))))) else none)))))))))))))))) else none))))) := (T85.join [1, 1, 0, 1] _).trans (by kernel_rfl)
theorem J_roadbookref06_part_3_eq (i29 : Int) (i30 : Int) (i31 : Int) (i32 : Int) (l33 : List PV) (i34 : Int) (l35 : List PV) : J_roadbookref06_part_3 i29 i30 i31 i32 l33 i34 l35 =
  (((wc W n_roadbookref06_Join [(PV.agg [(PV.int .i64 i32), (PV.slice 3 l33)]), (PV.agg [(PV.int .i64 i34), (PV.slice 3 l35)])])).bind (fun v36 => (c_g_i64_s3 v36 (fun v37 v38 => (some (PV.tup [(PV.agg [(PV.int .i64 v37), (PV.slice 3 v38)]), (PV.int .i64 (IntKind.wrap .i64 ((IntKind.wrap .i64 (i29 + i30 : Int)) + (2 : Int) : Int)))])))))) := (T85.join [1, 1, 1, 1, 1, 1, 1, 1] _).trans (by kernel_rfl)
theorem e_roadbookref06_part (a0 : ByteArray) (a1 : Int) : wc W n_roadbookref06_part [(PV.str a0), (PV.int .i64 a1)] =
  (bif ((((ByteArray.size a0) : Nat) : Int) == (0 : Int)) then (some (PV.tup [(PV.agg [(PV.int .i64 (0 : Int)), (PV.slice 3 [])]), (PV.int .i64 (0 : Int))])) else (bif (decide (GT.gt a1 (5 : Int))) then (some (PV.tup [(PV.agg [(PV.int .i64 (0 : Int)), (PV.slice 3 [])]), (PV.int .i64 (0 : Int))])) else (J_roadbookref06_part_1 a0 a1 (0 : Int)))) := go (by kernel_rfl) (by kernel_rfl) T85 (by kernel_rfl)
noncomputable def jF86 : Jn PV := (Classical.choose (exT fi86 (fin cfg fi86))).1
noncomputable def lF86 : Ln PV := (Classical.choose (exT fi86 (fin cfg fi86))).2
theorem T86 : Tied cfg W fi86 (fin cfg fi86) jF86 lF86 := Classical.choose_spec (exT fi86 (fin cfg fi86))
noncomputable def J_tree_set_1 (i1 : Int) (i2 : Int) (l3 : List PV) (b4 : Bool) : Option PV := jF86 [1, 0, 0, 1] (St.mk [(1, (AV.pv (PV.int .i64 i1))), (2, (AV.pv (PV.imm 3 (PV.agg [(PV.int .i64 i2), (PV.slice 3 l3)]) 0))), (11, (AV.pv (PV.bool b4)))] [])
noncomputable def J_tree_set_2 (i5 : Int) (l6 : List PV) (b7 : Bool) : Option PV := jF86 [1, 0, 1, 1, 1, 0, 0, 1] (St.mk [(2, (AV.pv (PV.imm 3 (PV.agg [(PV.int .i64 i5), (PV.slice 3 l6)]) 0))), (6, (AV.pv (PV.bool b7)))] [])
theorem J_tree_set_1_eq (i1 : Int) (i2 : Int) (l3 : List PV) (b4 : Bool) : J_tree_set_1 i1 i2 l3 b4 =
  (bif b4 then (some (PV.tup [(PV.int .i64 (0 : Int)), (PV.bool false)])) else (bif ((((List.length l3) : Nat) : Int) == (0 : Int)) then (bif (decide (GE.ge i2 (0 : Int))) then (J_tree_set_2 i2 l3 (decide (i2 < (4 : Int)))) else (J_tree_set_2 i2 l3 false)) else (((l3)[0]?).bind (fun v8 => (c_g_i64_s3 v8 (fun v9 v10 => (((wc W n_tree_set [(PV.agg [(PV.int .i64 v9), (PV.slice 3 v10)]), (PV.int .i64 (IntKind.wrap .i64 (i1 - (1 : Int) : Int)))])).bind (fun v11 => (((PV.asTup v11)).bind (fun v12 => (((v12)[0]?).bind (fun v13 => (c_i64 v13 (fun v14 => (((PV.asTup v11)).bind (fun v15 => (((v15)[1]?).bind (fun v16 => (c_b v16 (fun v17 => (((l3)[1]?).bind (fun v18 => (c_g_i64_s3 v18 (fun v19 v20 => (((wc W n_tree_set [(PV.agg [(PV.int .i64 v19), (PV.slice 3 v20)]), (PV.int .i64 (IntKind.wrap .i64 (i1 - (1 : Int) : Int)))])).bind (fun v21 => (((PV.asTup v21)).bind (fun v22 => (((v22)[0]?).bind (fun v23 => (c_i64 v23 (fun v24 => (((PV.asTup v21)).bind (fun v25 => (((v25)[1]?).bind (fun v26 => (c_b v26 (fun v27 => (bif v17 then (bif v27 then (some (PV.tup [(PV.int .i64 (IntKind.wrap .i64 (((BitVec.toNat (HOr.hOr (BitVec.ofInt 64 v14) (BitVec.ofInt 64 v24))) : Nat) : Int))), (PV.bool ((IntKind.wrap .i64 (((BitVec.toNat (HAnd.hAnd (BitVec.ofInt 64 v14) (BitVec.ofInt 64 v24))) : Nat) : Int)) == (0 : Int)))])) else (some (PV.tup [(PV.int .i64 (IntKind.wrap .i64 (((BitVec.toNat (HOr.hOr (BitVec.ofInt 64 v14) (BitVec.ofInt 64 v24))) : Nat) : Int))), (PV.bool false)]))) else (some (PV.tup [(PV.int .i64 (IntKind.wrap .i64 (((BitVec.toNat (HOr.hOr (BitVec.ofInt 64 v14) (BitVec.ofInt 64 v24))) : Nat) : Int))), (PV.bool false)]))))))))))))))))))))))))))))))))))))))))) := (T86.join [1, 0, 0, 1] _).trans (by kernel_rfl)
theorem J_tree_set_2_eq (i5 : Int) (l6 : List PV) (b7 : Bool) : J_tree_set_2 i5 l6 b7 =
  (((bif (decide ((bif (decide ((Int.tmod i5 (4 : Int)) < (0 : Int))) then (0 : Int) else (Int.tmod i5 (4 : Int))) < (0 : Int))) then none else (some (PV.int .i64 (IntKind.wrap .i64 ((1 : Int) * (HPow.hPow (2 : Int) (Min.min (Int.toNat (bif (decide ((Int.tmod i5 (4 : Int)) < (0 : Int))) then (0 : Int) else (Int.tmod i5 (4 : Int)))) 64)) : Int)))))).bind (fun v28 => (c_i64 v28 (fun v29 => (some (PV.tup [(PV.int .i64 v29), (PV.bool b7)])))))) := (T86.join [1, 0, 0, 1, 1, 1, 0, 1] _).trans (by kernel_rfl)
theorem e_tree_set (a0_0 : Int) (a0_1 : List PV) (a1 : Int) : wc W n_tree_set [(PV.agg [(PV.int .i64 a0_0), (PV.slice 3 a0_1)]), (PV.int .i64 a1)] =
  (bif (a1 == (0 : Int)) then (J_tree_set_1 a1 a0_0 a0_1 (a1 == (0 : Int))) else (bif ((((List.length a0_1) : Nat) : Int) != (0 : Int)) then (bif ((((List.length a0_1) : Nat) : Int) != (2 : Int)) then (J_tree_set_1 a1 a0_0 a0_1 ((((List.length a0_1) : Nat) : Int) != (2 : Int))) else (bif ((((List.length a0_1) : Nat) : Int) == (2 : Int)) then (J_tree_set_1 a1 a0_0 a0_1 (a0_0 != (0 : Int))) else (J_tree_set_1 a1 a0_0 a0_1 false))) else (bif ((((List.length a0_1) : Nat) : Int) == (2 : Int)) then (J_tree_set_1 a1 a0_0 a0_1 (a0_0 != (0 : Int))) else (J_tree_set_1 a1 a0_0 a0_1 false)))) := go (by kernel_rfl) (by kernel_rfl) T86 (by kernel_rfl)
noncomputable def jF87 : Jn PV := (Classical.choose (exT fi87 (fin cfg fi87))).1
noncomputable def lF87 : Ln PV := (Classical.choose (exT fi87 (fin cfg fi87))).2
theorem T87 : Tied cfg W fi87 (fin cfg fi87) jF87 lF87 := Classical.choose_spec (exT fi87 (fin cfg fi87))
noncomputable def J_roadbookref06_leaves_1 (i1 : Int) (i2 : Int) (l3 : List PV) : Option PV := jF87 [1, 1, 1, 1] (St.mk [(1, (AV.pv (PV.int .i64 i1))), (2, (AV.pv (PV.imm 3 (PV.agg [(PV.int .i64 i2), (PV.slice 3 l3)]) 0)))] [])
theorem J_roadbookref06_leaves_1_eq (i1 : Int) (i2 : Int) (l3 : List PV) : J_roadbookref06_leaves_1 i1 i2 l3 =
  (((l3)[0]?).bind (fun v4 => (c_g_i64_s3 v4 (fun v5 v6 => (((wc W n_roadbookref06_leaves [(PV.agg [(PV.int .i64 v5), (PV.slice 3 v6)]), (PV.int .i64 (IntKind.wrap .i64 (i1 + (1 : Int) : Int)))])).bind (fun v7 => (((PV.asTup v7)).bind (fun v8 => (((v8)[0]?).bind (fun v9 => (c_s0 v9 (fun v10 => (((PV.asTup v7)).bind (fun v11 => (((v11)[1]?).bind (fun v12 => (c_b v12 (fun v13 => (((l3)[1]?).bind (fun v14 => (c_g_i64_s3 v14 (fun v15 v16 => (((wc W n_roadbookref06_leaves [(PV.agg [(PV.int .i64 v15), (PV.slice 3 v16)]), (PV.int .i64 (IntKind.wrap .i64 (i1 + (1 : Int) : Int)))])).bind (fun v17 => (((PV.asTup v17)).bind (fun v18 => (((v18)[0]?).bind (fun v19 => (c_s0 v19 (fun v20 => (((PV.asTup v17)).bind (fun v21 => (((v21)[1]?).bind (fun v22 => (c_b v22 (fun v23 => (bif (decide ((List.length v10) ≤ 4294967296)) then (bif (true && (decide (((List.length v10) + (List.length v20) : Nat) ≤ 4294967296))) then (bif v13 then (some (PV.tup [(PV.slice 0 (v10 ++ v20)), (PV.bool v23)])) else (some (PV.tup [(PV.slice 0 (v10 ++ v20)), (PV.bool false)]))) else none) else none))))))))))))))))))))))))))))))))))))) := (T87.join [1, 1, 1, 1] _).trans (by kernel_rfl)
theorem e_roadbookref06_leaves (a0_0 : Int) (a0_1 : List PV) (a1 : Int) : wc W n_roadbookref06_leaves [(PV.agg [(PV.int .i64 a0_0), (PV.slice 3 a0_1)]), (PV.int .i64 a1)] =
  (bif (decide (GT.gt a1 (4 : Int))) then (some (PV.tup [(PV.slice 0 []), (PV.bool false)])) else (bif ((((List.length a0_1) : Nat) : Int) == (0 : Int)) then (bif (decide (GE.ge a0_0 (0 : Int))) then (some (PV.tup [(PV.slice 0 [(PV.int .i64 a0_0)]), (PV.bool (decide (a0_0 ≤ (3 : Int))))])) else (some (PV.tup [(PV.slice 0 [(PV.int .i64 a0_0)]), (PV.bool false)]))) else (bif ((((List.length a0_1) : Nat) : Int) != (2 : Int)) then (some (PV.tup [(PV.slice 0 []), (PV.bool false)])) else (bif (a0_0 != (0 : Int)) then (some (PV.tup [(PV.slice 0 []), (PV.bool false)])) else (J_roadbookref06_leaves_1 a1 a0_0 a0_1))))) := go (by kernel_rfl) (by kernel_rfl) T87 (by kernel_rfl)
noncomputable def jF88 : Jn PV := (Classical.choose (exT fi88 (fin cfg fi88))).1
noncomputable def lF88 : Ln PV := (Classical.choose (exT fi88 (fin cfg fi88))).2
theorem T88 : Tied cfg W fi88 (fin cfg fi88) jF88 lF88 := Classical.choose_spec (exT fi88 (fin cfg fi88))
theorem e_tree_text (a0_0 : Int) (a0_1 : List PV) : wc W n_tree_text [(PV.agg [(PV.int .i64 a0_0), (PV.slice 3 a0_1)])] =
  (bif ((((List.length a0_1) : Nat) : Int) == (0 : Int)) then (some (PV.str (Utf8.encode (IntKind.wrap .i32 (IntKind.wrap .i64 ((48 : Int) + a0_0 : Int)))))) else (((a0_1)[0]?).bind (fun v1 => (c_g_i64_s3 v1 (fun v2 v3 => (((wc W n_tree_text [(PV.agg [(PV.int .i64 v2), (PV.slice 3 v3)])])).bind (fun v4 => (c_t v4 (fun v5 => (((bif (decide ((1 + (ByteArray.size v5) : Nat) ≤ 9223372036854775807)) then (some (PV.str ((ByteArray.mk (List.toArray [(40 : UInt8)])) ++ v5))) else none)).bind (fun v6 => (c_t v6 (fun v7 => (((a0_1)[1]?).bind (fun v8 => (c_g_i64_s3 v8 (fun v9 v10 => (((wc W n_tree_text [(PV.agg [(PV.int .i64 v9), (PV.slice 3 v10)])])).bind (fun v11 => (c_t v11 (fun v12 => (((bif (decide (((ByteArray.size v7) + (ByteArray.size v12) : Nat) ≤ 9223372036854775807)) then (some (PV.str (v7 ++ v12))) else none)).bind (fun v13 => (c_t v13 (fun v14 => (((bif (decide (((ByteArray.size v14) + 1 : Nat) ≤ 9223372036854775807)) then (some (PV.str (v14 ++ (ByteArray.mk (List.toArray [(41 : UInt8)]))))) else none)).bind (fun v15 => (c_t v15 (fun v16 => (some (PV.str v16))))))))))))))))))))))))))))))) := go (by kernel_rfl) (by kernel_rfl) T88 (by kernel_rfl)
noncomputable def jF89 : Jn PV := (Classical.choose (exT fi89 (fin cfg fi89))).1
noncomputable def lF89 : Ln PV := (Classical.choose (exT fi89 (fin cfg fi89))).2
theorem T89 : Tied cfg W fi89 (fin cfg fi89) jF89 lF89 := Classical.choose_spec (exT fi89 (fin cfg fi89))
noncomputable def L_slices_EqualFunc_api_Tree_api_Tree_api_Tree_api_Tree_1 (l1 : List PV) (p2 : PV) (l3 : List PV) (i4 : Int) (i5 : Int) : Option PV := lF89 [0, 1, 0, 1, 1] 0 (St.mk [(1, (AV.pv (PV.slice 3 l1))), (2, (AV.pv p2)), (15, (AV.pv (PV.slice 3 l3))), (16, (AV.pv (PV.int .i64 i4))), (17, (AV.pv (PV.int .i64 i5)))] [])
theorem L_slices_EqualFunc_api_Tree_api_Tree_api_Tree_api_Tree_1_eq (l1 : List PV) (p2 : PV) (l3 : List PV) (i4 : Int) (i5 : Int) : L_slices_EqualFunc_api_Tree_api_Tree_api_Tree_api_Tree_1 l1 p2 l3 i4 i5 =
  (bif (decide (i5 < i4)) then (bif (decide ((0 : Int) ≤ i5)) then (((l3)[(Int.toNat i5)]?).bind (fun v6 => (c_g_i64_s3 v6 (fun v7 v8 => (bif (decide ((0 : Int) ≤ i5)) then (((l1)[(Int.toNat i5)]?).bind (fun v9 => (c_g_i64_s3 v9 (fun v10 v11 => (((PV.asFn p2)).bind (fun v12 => (((wc W (Prod.fst v12) (((Prod.fst (Prod.snd v12)) ++ [(PV.agg [(PV.int .i64 v7), (PV.slice 3 v8)]), (PV.agg [(PV.int .i64 v10), (PV.slice 3 v11)])]) ++ (Prod.snd (Prod.snd v12))))).bind (fun v13 => (c_b v13 (fun v14 => (bif (!v14) then (some (PV.bool false)) else (L_slices_EqualFunc_api_Tree_api_Tree_api_Tree_api_Tree_1 l1 p2 l3 i4 (IntKind.wrap .i64 (i5 + (1 : Int) : Int)))))))))))))) else none))))) else none) else (some (PV.bool true))) := (T89.loop [1, 1, 0, 1, 0] 0 _ rfl).trans (by kernel_rfl)
theorem e_slices_EqualFunc_api_Tree_api_Tree_api_Tree_api_Tree (a0 : List PV) (a1 : List PV) (a2 : PV) : wc W n_slices_EqualFunc_api_Tree_api_Tree_api_Tree_api_Tree [(PV.slice 3 a0), (PV.slice 3 a1), a2] =
  (bif ((((List.length a0) : Nat) : Int) != (((List.length a1) : Nat) : Int)) then (some (PV.bool false)) else (L_slices_EqualFunc_api_Tree_api_Tree_api_Tree_api_Tree_1 a1 a2 a0 (((List.length a0) : Nat) : Int) (0 : Int))) := go (by kernel_rfl) (by kernel_rfl) T89 (by kernel_rfl)
noncomputable def jF90 : Jn PV := (Classical.choose (exT fi90 (fin cfg fi90))).1
noncomputable def lF90 : Ln PV := (Classical.choose (exT fi90 (fin cfg fi90))).2
theorem T90 : Tied cfg W fi90 (fin cfg fi90) jF90 lF90 := Classical.choose_spec (exT fi90 (fin cfg fi90))
theorem e_roadbookref06_many (a0 : Int) : wc W n_roadbookref06_many [(PV.int .i64 a0)] =
  (some (PV.int .i64 (IntKind.wrap .i64 ((IntKind.wrap .i64 ((IntKind.wrap .i64 ((Int.tmod a0 (2 : Int)) + (Int.tmod (IntKind.wrap .i64 (Int.tdiv a0 (2 : Int))) (2 : Int)) : Int)) + (Int.tmod (IntKind.wrap .i64 (Int.tdiv a0 (4 : Int))) (2 : Int)) : Int)) + (Int.tmod (IntKind.wrap .i64 (Int.tdiv a0 (8 : Int))) (2 : Int)) : Int)))) := go (by kernel_rfl) (by kernel_rfl) T90 (by kernel_rfl)
end Go.Cf

namespace Go.Cf
open Go Go.Ab
set_option linter.unusedVariables false
set_option linter.unusedSimpArgs false
inductive Tree where
  | mk (occ : Int) (l : List Tree)
namespace Tree
def occ : Tree → Int | mk o _ => o
def l : Tree → List Tree | mk _ l => l
@[simp] theorem occ_mk (o : Int) (l : List Tree) : (mk o l).occ = o := rfl
@[simp] theorem l_mk (o : Int) (l : List Tree) : (mk o l).l = l := rfl
@[simp] theorem eta (t : Tree) : mk t.occ t.l = t := by cases t; rfl
theorem ind {P : Tree → Prop} (h : ∀ o l, (∀ t ∈ l, P t) → P (mk o l)) (t : Tree) : P t :=
  Tree.rec (motive_1 := P) (motive_2 := fun l => ∀ t ∈ l, P t) (fun o l ih => h o l ih) (by simp) (fun a r ha hr => by simpa using ⟨ha, hr⟩) t
mutual
def pv : Tree → PV
  | mk o l => .agg [.int .i64 o, .slice 3 (pvs l)]
def pvs : List Tree → List PV
  | [] => []
  | t :: r => pv t :: pvs r
end
theorem pvs_map : ∀ l : List Tree, pvs l = l.map pv
  | [] => rfl
  | t :: r => by simp [pvs, pvs_map r]
theorem pv_mk (o : Int) (l : List Tree) : (mk o l).pv = .agg [.int .i64 o, .slice 3 (l.map pv)] := by rw [pv, pvs_map]
theorem pv_eq (t : Tree) : t.pv = .agg [.int .i64 t.occ, .slice 3 (t.l.map pv)] := by cases t; exact pv_mk _ _
@[simp] theorem fold (t : Tree) : PV.agg [.int .i64 t.occ, .slice 3 (t.l.map pv)] = t.pv := (pv_eq t).symm
@[simp] theorem c_mk (t : Tree) {R : Type} (K : Int → List PV → Option R) : c_g_i64_s3 t.pv K = K t.occ (t.l.map pv) := by rw [pv_eq]; rfl
def beq : Tree → Tree → Bool
  | mk o l, mk p m => decide (o = p) && beqs l m
where beqs : List Tree → List Tree → Bool
  | [], [] => true
  | a :: r, b :: s => beq a b && beqs r s
  | _, _ => false
theorem beq_iff : ∀ a b : Tree, beq a b = true ↔ a = b := by
  intro a
  induction a using ind with
  | h o l ih =>
    intro b
    obtain ⟨p, m⟩ := b
    have : ∀ (l m : List Tree), (∀ t ∈ l, ∀ b, beq t b = true ↔ t = b) → (beq.beqs l m = true ↔ l = m) := by
      intro l
      induction l with
      | nil => intro m _; cases m <;> simp [beq.beqs]
      | cons a r ih2 =>
        intro m h
        cases m with
        | nil => simp [beq.beqs]
        | cons b s => simp [beq.beqs, h a (by simp), ih2 s (fun t ht => h t (by simp [ht]))]
    simp [beq, this l m ih]
instance : DecidableEq Tree := fun a b => decidable_of_iff _ (beq_iff a b)
end Tree
theorem w_Leaf (n : Int) : wc W n_tree_Leaf [.int .i64 n] = some (Tree.mk n []).pv := by
  rw [e_tree_Leaf, Tree.pv_mk]; rfl
theorem w_Join (a b : Tree) : wc W n_tree_Join [a.pv, b.pv] = some (Tree.mk 0 [a, b]).pv := by
  have h := e_tree_Join a.occ (a.l.map Tree.pv) b.occ (b.l.map Tree.pv)
  simp only [Tree.fold] at h
  rw [h, Tree.pv_mk]; rfl
theorem wr_Join (a b : Tree) : wc W n_roadbookref06_Join [a.pv, b.pv] = some (Tree.mk 0 [a, b]).pv := by
  have h := e_roadbookref06_Join a.occ (a.l.map Tree.pv) b.occ (b.l.map Tree.pv)
  simp only [Tree.fold] at h
  rw [h, Tree.pv_mk]; rfl
end Go.Cf

namespace Go.Cf
open Go Go.Ab
set_option linter.unusedVariables false
set_option linter.unusedSimpArgs false
namespace Tree
theorem beqs_zip : ∀ l m : List Tree, beq.beqs l m = (decide (l.length = m.length) && (l.zip m).all fun x => beq x.1 x.2)
  | [], [] => rfl
  | [], _ :: _ => by simp [beq.beqs]
  | _ :: _, [] => by simp [beq.beqs]
  | a :: r, b :: s => by
    simp only [beq.beqs, beqs_zip r s, List.length_cons, List.zip_cons_cons, List.all_cons]
    by_cases h : r.length = s.length <;> simp [h]
inductive Ok : Tree → Prop
  | mk (o : Int) (l : List Tree) (ho : I64 o) (hl : l.length ≤ maxLen) (h : ∀ t ∈ l, t.Ok) : Ok (.mk o l)
theorem Ok.occ {t : Tree} (h : t.Ok) : I64 t.occ := by cases h; assumption
theorem Ok.len {t : Tree} (h : t.Ok) : t.l.length ≤ 9223372036854775807 := by cases h; assumption
theorem Ok.part {t : Tree} (h : t.Ok) : ∀ x ∈ t.l, x.Ok := by cases h; assumption
end Tree
theorem zip_get {α β : Type} (l : List α) (m : List β) (q : α × β → Bool) (h : l.length = m.length) :
    ((List.range l.length).all fun i => ((l.zip m)[i]?).all q) = (l.zip m).all q := by
  have := all_get (l.zip m) q
  simp only [List.length_zip, ← h, Nat.min_self] at this
  exact this
theorem wr_Same (a : Tree) : ∀ b : Tree, a.Ok → wc W n_roadbookref06_Same [a.pv, b.pv] = some (.bool (a.beq b)) := by
  induction a using Tree.ind with
  | h o l ih =>
    intro b ha
    obtain ⟨p, m⟩ := b
    rw [Tree.pv_mk, Tree.pv_mk, e_roadbookref06_Same]
    simp only [Tree.beq, Tree.beqs_zip, List.length_map]
    by_cases e : o = p
    · subst e
      by_cases e2 : l.length = m.length
      · rw [bne_f rfl, bne_f (by rw [e2]), cond_false, cond_false, decide_eq_true e2, J_roadbookref06_Same_1_eq]
        simp only [Bool.true_and, decide_true]
        have hll := ha.len
        simp only [Tree.l_mk] at hll
        rw [loop_all (fun i => L_roadbookref06_Same_2 o (l.map Tree.pv) o (m.map Tree.pv) i) l.length (fun i => ((l.zip m)[i]?).all fun x => x.1.beq x.2) (some (.bool false)) (some (.bool true)) ?_ ?_]
        · rw [zip_get l m (fun x => x.1.beq x.2) e2]
          cases (l.zip m).all fun x => x.1.beq x.2 <;> rfl
        · intro i hi
          rw [L_roadbookref06_Same_2_eq]
          have hm : i < m.length := by omega
          simp only [List.length_map, lt_len hi, nat_le, cond_true, Int.toNat_natCast, List.getElem?_map, List.getElem?_eq_getElem hi, List.getElem?_eq_getElem hm, Option.map_some, Option.bind_some, Tree.c_mk, Tree.fold]
          rw [ih l[i] (List.getElem_mem hi) m[i] (ha.part _ (List.getElem_mem hi))]
          rw [List.getElem?_eq_getElem (l := l.zip m) (i := i) (by simp; omega)]
          simp only [Option.bind_some, c_b_mk, List.getElem_zip, Option.all_some]
          rw [wrap64 (by omega) (by omega)]
          cases (l[i]).beq m[i] <;> rfl
        · rw [L_roadbookref06_Same_2_eq]
          simp
      · have : ((l.length : Int) != (m.length : Int)) = true := by simp; omega
        simp [e2, this]
    · simp [e, bne_t e]
theorem w_EqualFunc (l m : List Tree) (g : Nat) (hl : l.length ≤ 9223372036854775807) (hg : ∀ a ∈ l, ∀ b, wc W g [a.pv, b.pv] = some (.bool (a.beq b))) :
    wc W n_slices_EqualFunc_api_Tree_api_Tree_api_Tree_api_Tree [.slice 3 (l.map Tree.pv), .slice 3 (m.map Tree.pv), .fn g [] []] = some (.bool (Tree.beq.beqs l m)) := by
  rw [e_slices_EqualFunc_api_Tree_api_Tree_api_Tree_api_Tree, Tree.beqs_zip]
  simp only [List.length_map]
  by_cases e2 : l.length = m.length
  · simp only [e2, bne_self_eq_false, cond_false, decide_true, Bool.true_and]
    rw [← e2]
    rw [loop_all (fun i => L_slices_EqualFunc_api_Tree_api_Tree_api_Tree_api_Tree_1 (m.map Tree.pv) (.fn g [] []) (l.map Tree.pv) l.length i) l.length (fun i => ((l.zip m)[i]?).all fun x => x.1.beq x.2) (some (.bool false)) (some (.bool true)) ?_ ?_]
    · rw [zip_get l m (fun x => x.1.beq x.2) e2]
      cases (l.zip m).all fun x => x.1.beq x.2 <;> rfl
    · intro i hi
      rw [L_slices_EqualFunc_api_Tree_api_Tree_api_Tree_api_Tree_1_eq]
      have hm : i < m.length := by omega
      simp only [List.length_map, lt_len hi, nat_le, cond_true, Int.toNat_natCast, List.getElem?_map, List.getElem?_eq_getElem hi, List.getElem?_eq_getElem hm, Option.map_some, Option.bind_some, Tree.c_mk, Tree.fold, asFn_mk, List.nil_append, List.append_nil]
      rw [hg l[i] (List.getElem_mem hi) m[i]]
      rw [List.getElem?_eq_getElem (l := l.zip m) (i := i) (by simp; omega)]
      simp only [Option.bind_some, c_b_mk, List.getElem_zip, Option.all_some]
      rw [wrap64 (by omega) (by omega)]
      cases (l[i]).beq m[i] <;> rfl
    · rw [L_slices_EqualFunc_api_Tree_api_Tree_api_Tree_api_Tree_1_eq]
      simp
  · have : ((l.length : Int) != (m.length : Int)) = true := by simp; omega
    simp [e2, this]
theorem w_Same (a : Tree) : ∀ b : Tree, a.Ok → wc W n_tree_Same [a.pv, b.pv] = some (.bool (a.beq b)) := by
  induction a using Tree.ind with
  | h o l ih =>
    intro b ha
    obtain ⟨p, m⟩ := b
    have hll := ha.len
    rw [Tree.pv_mk, Tree.pv_mk, e_tree_Same]
    simp only [Tree.beq]
    by_cases e : o = p
    · subst e
      simp only [Tree.l_mk] at hll
      rw [beq_t rfl, cond_true, w_EqualFunc l m _ (by omega) (fun a ha' b => ih a ha' b (ha.part _ ha'))]
      simp
    · simp [e, beq_f e]
end Go.Cf

namespace Go.Cf
open Go Go.Ab
set_option linter.unusedVariables false
set_option linter.unusedSimpArgs false
theorem wr_Size (t : Tree) : ∀ m : Int, t.Ok → ∃ n, wc W n_roadbookref06_Size [t.pv, .int .i64 m] = some (.int .i64 n) := by
  induction t using Tree.ind with
  | h o l ih =>
    intro m ha
    have hll := ha.len
    simp only [Tree.l_mk] at hll
    rw [Tree.pv_mk, e_roadbookref06_Size]
    have : ∀ (k i : Nat) (n : Int), i + k = l.length → ∃ r, L_roadbookref06_Size_1 m o (l.map Tree.pv) n (i : Int) = some (.int .i64 r) := by
      intro k
      induction k with
      | zero =>
        intro i n h
        simp at h; subst h
        exact ⟨n, by rw [L_roadbookref06_Size_1_eq]; simp⟩
      | succ k ih2 =>
        intro i n h
        have hi : i < l.length := by omega
        rw [L_roadbookref06_Size_1_eq]
        simp only [List.length_map, lt_len hi, cond_true]
        cases decide (n ≤ m) with
        | false => exact ⟨n, rfl⟩
        | true =>
          obtain ⟨q, hq⟩ := ih l[i] (List.getElem_mem hi) (IntKind.wrap .i64 (m - n)) (ha.part _ (List.getElem_mem hi))
          obtain ⟨r, hr⟩ := ih2 (i + 1) (IntKind.wrap .i64 (n + q)) (by omega)
          refine ⟨r, ?_⟩
          rw [cond_true, J_roadbookref06_Size_2_eq]
          simp only [nat_le, cond_true, Int.toNat_natCast, List.getElem?_map, List.getElem?_eq_getElem hi, Option.map_some, Option.bind_some, Tree.c_mk, Tree.fold, hq, c_i64_mk]
          rw [wrap64 (n := (i : Int) + 1) (by omega) (by omega)]
          exact hr
    exact this l.length 0 1 (by omega)
def setO : Nat → Tree → Option Nat
  | 0, _ => none
  | _ + 1, .mk o [] => bif decide (0 ≤ o) && decide (o < 4) then some (2 ^ o.toNat) else none
  | d + 1, .mk o [a, b] => bif decide (o = 0) then (setO d a).bind fun x => (setO d b).bind fun y => bif decide (x &&& y = 0) then some (x ||| y) else none else none
  | _ + 1, .mk _ [_] => none
  | _ + 1, .mk _ (_ :: _ :: _ :: _) => none
theorem pow4 : ∀ o : Nat, o < 4 → 2 ^ o < 16 := by decide
theorem or16 : ∀ x : Nat, x < 16 → ∀ y : Nat, y < 16 → x ||| y < 16 := by decide +kernel
theorem bif_some {α : Type} {c : Bool} {a : Option α} {r : α} (h : (bif c then a else none) = some r) : c = true ∧ a = some r := by
  cases c with
  | true => exact ⟨rfl, h⟩
  | false => cases h
theorem setO_some {d : Nat} {o : Int} {l : List Tree} {m : Nat} (h : setO (d + 1) (.mk o l) = some m) :
    (l = [] ∧ 0 ≤ o ∧ o < 4 ∧ m = 2 ^ o.toNat) ∨ (∃ a b x y, l = [a, b] ∧ o = 0 ∧ setO d a = some x ∧ setO d b = some y ∧ x &&& y = 0 ∧ m = x ||| y) := by
  rcases l with _ | ⟨a, _ | ⟨b, _ | ⟨c, l⟩⟩⟩ <;> simp only [setO] at h
  · obtain ⟨h1, h2⟩ := bif_some h
    simp only [Bool.and_eq_true, decide_eq_true_eq, Option.some.injEq] at h1 h2
    exact .inl ⟨rfl, h1.1, h1.2, h2.symm⟩
  · cases h
  · obtain ⟨h1, h2⟩ := bif_some h
    simp only [Option.bind_eq_some_iff, decide_eq_true_eq] at h1 h2
    obtain ⟨x, hx, y, hy, h3⟩ := h2
    obtain ⟨h4, h5⟩ := bif_some h3
    simp only [decide_eq_true_eq, Option.some.injEq] at h4 h5
    exact .inr ⟨a, b, x, y, rfl, h1, hx, hy, h4, h5.symm⟩
  · cases h
theorem setO_lt : ∀ (d : Nat) (t : Tree) (m : Nat), setO d t = some m → m < 16
  | 0, t, m, h => by simp [setO] at h
  | d + 1, ⟨o, l⟩, m, h => by
    rcases setO_some h with ⟨rfl, h0, h4, rfl⟩ | ⟨a, b, x, y, rfl, rfl, hx, hy, hxy, rfl⟩
    · exact pow4 _ (by omega)
    · exact or16 _ (setO_lt d a x hx) _ (setO_lt d b y hy)
theorem bits16 : ∀ x : Nat, x < 16 → ∀ y : Nat, y < 16 → IntKind.wrap .i64 (((BitVec.toNat (HOr.hOr (BitVec.ofInt 64 (x : Int)) (BitVec.ofInt 64 (y : Int)))) : Nat) : Int) = ((x ||| y : Nat) : Int) ∧
    ((IntKind.wrap .i64 (((BitVec.toNat (HAnd.hAnd (BitVec.ofInt 64 (x : Int)) (BitVec.ofInt 64 (y : Int)))) : Nat) : Int)) == (0 : Int)) = decide (x &&& y = 0) := by decide +kernel
theorem leaf16 : ∀ o : Nat, o < 4 → IntKind.wrap .i64 ((1 : Int) * (HPow.hPow (2 : Int) (Min.min (Int.toNat (bif (decide ((Int.tmod (o : Int) (4 : Int)) < (0 : Int))) then (0 : Int) else (Int.tmod (o : Int) (4 : Int)))) 64)) : Int) = ((2 ^ o : Nat) : Int) := by decide +kernel
theorem w_set : ∀ (d : Nat) (t : Tree), d < 1000 → ∃ n : Int, wc W n_tree_set [t.pv, .int .i64 (d : Int)] = some (.tup [.int .i64 n, .bool (setO d t).isSome]) ∧ ∀ m : Nat, setO d t = some m → n = m
  | 0, t, _ => by
    refine ⟨0, ?_, fun m h => by simp [setO] at h⟩
    rw [Tree.pv_eq, e_tree_set]
    simp [J_tree_set_1_eq, setO]
  | d + 1, ⟨o, l⟩, hd => by
    have hne : ((((d + 1 : Nat) : Int)) == 0) = false := beq_f (by omega)
    have hw : IntKind.wrap .i64 ((((d + 1 : Nat) : Int)) - 1) = (d : Int) := by rw [wrap64 (by omega) (by omega)]; omega
    rw [Tree.pv_mk, e_tree_set, hne]
    rcases l with _ | ⟨a, _ | ⟨b, _ | ⟨c, l⟩⟩⟩
    · have hc : decide ((bif (decide ((Int.tmod o (4 : Int)) < (0 : Int))) then (0 : Int) else (Int.tmod o (4 : Int))) < (0 : Int)) = false := by
        by_cases h : Int.tmod o 4 < 0
        · simp [h]
        · simp [h]
      simp only [cond_false, List.map_nil, List.length_nil, J_tree_set_1_eq, J_tree_set_2_eq, show ((((0 : Nat)) : Int) != (0 : Int)) = false from rfl, show ((((0 : Nat)) : Int) == (2 : Int)) = false from rfl, show ((((0 : Nat)) : Int) == (0 : Int)) = true from rfl, cond_true, hc, Option.bind_some, c_i64_mk, setO]
      by_cases h0 : 0 ≤ o
      · by_cases h4 : o < 4
        · obtain ⟨n, rfl⟩ := Int.eq_ofNat_of_zero_le h0
          refine ⟨_, by rw [decide_eq_true h0, decide_eq_true h4]; rfl, fun m h => ?_⟩
          rw [decide_eq_true h0, decide_eq_true h4] at h
          simp only [Bool.and_self, cond_true, Option.some.injEq, Int.toNat_natCast] at h; subst h
          exact leaf16 n (by omega)
        · exact ⟨_, by rw [decide_eq_true h0, decide_eq_false h4]; rfl, fun m h => by rw [decide_eq_false h4, Bool.and_false] at h; cases h⟩
      · exact ⟨_, by rw [decide_eq_false h0]; rfl, fun m h => by rw [decide_eq_false h0] at h; cases h⟩
    · exact ⟨0, by simp [J_tree_set_1_eq, setO], fun m h => by simp [setO] at h⟩
    · obtain ⟨x, hx, ex⟩ := w_set d a (by omega)
      obtain ⟨y, hy, ey⟩ := w_set d b (by omega)
      by_cases ho : o = 0
      · subst ho
        simp only [cond_false, List.map_cons, List.map_nil, List.length_cons, List.length_nil, J_tree_set_1_eq, show ((((0 + 1 + 1 : Nat)) : Int) != (0 : Int)) = true from rfl, show ((((0 + 1 + 1 : Nat)) : Int) != (2 : Int)) = false from rfl,
          show ((((0 + 1 + 1 : Nat)) : Int) == (2 : Int)) = true from rfl, show ((((0 + 1 + 1 : Nat)) : Int) == (0 : Int)) = false from rfl, cond_true, bne_self_eq_false, List.getElem?_cons_zero, List.getElem?_cons_succ, Option.bind_some, Tree.c_mk, Tree.fold, hw, hx, hy, asTup_mk, c_i64_mk, c_b_mk]
        cases ha : setO d a with
        | none => exact ⟨_, by simp [setO, ha]; rfl, fun m h => by simp [setO, ha] at h⟩
        | some p =>
          cases hb : setO d b with
          | none => exact ⟨_, by simp [setO, ha, hb]; rfl, fun m h => by simp [setO, ha, hb] at h⟩
          | some q =>
            have := ex p ha; subst this
            have := ey q hb; subst this
            obtain ⟨h1, h2⟩ := bits16 p (setO_lt d a p ha) q (setO_lt d b q hb)
            refine ⟨((p ||| q : Nat) : Int), ?_, fun m h => ?_⟩
            · simp only [Option.isSome_some, cond_true, h1, h2, setO, ha, hb, Option.bind_some, decide_true]
              cases decide (p &&& q = 0) <;> rfl
            · simp only [setO, ha, hb, Option.bind_some, decide_true, cond_true] at h
              obtain ⟨_, h3⟩ := bif_some h
              simp only [Option.some.injEq] at h3; subst h3; rfl
      · exact ⟨0, by simp [J_tree_set_1_eq, setO, ho, bne_t ho], fun m h => by simp [setO, ho] at h⟩
    · refine ⟨0, ?_, fun m h => by simp [setO] at h⟩
      have h1 : ((((a.pv :: b.pv :: c.pv :: l.map Tree.pv).length : Nat) : Int) != 0) = true := bne_t (by simp; omega)
      have h2 : ((((a.pv :: b.pv :: c.pv :: l.map Tree.pv).length : Nat) : Int) != 2) = true := bne_t (by simp; omega)
      simp only [List.map_cons, h1, h2, cond_true, cond_false, J_tree_set_1_eq]
      rfl
theorem w_May (t : Tree) : wc W n_tree_May [t.pv] = some (.bool (setO 4 t).isSome) := by
  have h := e_tree_May t.occ (t.l.map Tree.pv)
  obtain ⟨n, h1, _⟩ := w_set 4 t (by omega)
  simp only [Tree.fold] at h
  rw [h]
  have h1' : wc W n_tree_set [t.pv, .int .i64 (4 : Int)] = some (.tup [.int .i64 n, .bool (setO 4 t).isSome]) := h1
  simp [h1']
theorem w_Set (t : Tree) : wc W n_tree_Set [t.pv] = some (.int .i64 (((setO 4 t).getD 0 : Nat) : Int)) := by
  have h := e_tree_Set t.occ (t.l.map Tree.pv)
  obtain ⟨n, h1, h2⟩ := w_set 4 t (by omega)
  simp only [Tree.fold] at h
  rw [h]
  have h1' : wc W n_tree_set [t.pv, .int .i64 (4 : Int)] = some (.tup [.int .i64 n, .bool (setO 4 t).isSome]) := h1
  simp only [h1', Option.bind_some, asTup_mk, List.getElem?_cons_zero, List.getElem?_cons_succ, c_i64_mk, c_b_mk]
  cases hs : setO 4 t with
  | none => rfl
  | some m => simp [h2 m hs]
end Go.Cf

namespace Go.Cf
open Go Go.Ab
set_option linter.unusedVariables false
set_option linter.unusedSimpArgs false
def lvO : Nat → Tree → List Int × Bool
  | 0, _ => ([], false)
  | _ + 1, .mk o [] => ([o], decide (0 ≤ o) && decide (o ≤ 3))
  | d + 1, .mk o [a, b] => bif decide (o = 0) then ((lvO d a).1 ++ (lvO d b).1, (lvO d a).2 && (lvO d b).2) else ([], false)
  | _ + 1, .mk _ [_] => ([], false)
  | _ + 1, .mk _ (_ :: _ :: _ :: _) => ([], false)
theorem lvO_len : ∀ (d : Nat) (t : Tree), (lvO d t).1.length ≤ 2 ^ d
  | 0, t => by simp [lvO]
  | d + 1, ⟨o, l⟩ => by
    have h1 : 1 ≤ 2 ^ (d + 1) := Nat.one_le_two_pow
    rcases l with _ | ⟨a, _ | ⟨b, _ | ⟨c, l⟩⟩⟩ <;> simp only [lvO, List.length_nil, List.length_singleton] <;> try omega
    have ha := lvO_len d a
    have hb := lvO_len d b
    rw [Nat.pow_succ]
    by_cases ho : o = 0
    · simp only [ho, decide_true, cond_true, List.length_append]; omega
    · simp [ho]
theorem wr_leaves : ∀ (d : Nat) (t : Tree), d ≤ 4 → wc W n_roadbookref06_leaves [t.pv, .int .i64 ((5 - d : Nat) : Int)] = some (.tup [.slice 0 ((lvO d t).1.map (PV.int .i64)), .bool (lvO d t).2])
  | 0, ⟨o, l⟩, _ => by
    rw [Tree.pv_mk, e_roadbookref06_leaves]
    rfl
  | d + 1, ⟨o, l⟩, hd => by
    have h0 : decide (((5 - (d + 1) : Nat) : Int) > 4) = false := decide_eq_false (by omega)
    have hw : IntKind.wrap .i64 (((5 - (d + 1) : Nat) : Int) + 1) = ((5 - d : Nat) : Int) := by rw [wrap64 (by omega) (by omega)]; omega
    rw [Tree.pv_mk, e_roadbookref06_leaves, h0]
    rcases l with _ | ⟨a, _ | ⟨b, _ | ⟨c, l⟩⟩⟩
    · simp only [cond_false, List.map_nil, List.length_nil, show ((((0 : Nat)) : Int) == (0 : Int)) = true from rfl, cond_true, lvO]
      by_cases h : 0 ≤ o
      · rw [decide_eq_true h]; rfl
      · rw [decide_eq_false h]; rfl
    · rfl
    · have ha := wr_leaves d a (by omega)
      have hb := wr_leaves d b (by omega)
      by_cases ho : o = 0
      · subst ho
        have l1 := lvO_len d a
        have l2 := lvO_len d b
        have l3 : 2 ^ d ≤ 2 ^ 4 := Nat.pow_le_pow_right (by omega) (by omega)
        simp only [cond_false, List.map_cons, List.map_nil, List.length_cons, List.length_nil, show ((((0 + 1 + 1 : Nat)) : Int) != (2 : Int)) = false from rfl, show ((((0 + 1 + 1 : Nat)) : Int) == (0 : Int)) = false from rfl, bne_self_eq_false,
          J_roadbookref06_leaves_1_eq, List.getElem?_cons_zero, List.getElem?_cons_succ, Option.bind_some, Tree.c_mk, Tree.fold, hw, ha, hb, asTup_mk, c_s0_mk, c_b_mk, List.length_map,
          decide_eq_true (show (lvO d a).1.length ≤ 4294967296 by omega), decide_eq_true (show (lvO d a).1.length + (lvO d b).1.length ≤ 4294967296 by omega), Bool.and_self, cond_true, lvO, decide_true, List.map_append]
        cases (lvO d a).2 <;> rfl
      · simp only [cond_false, List.map_cons, List.map_nil, List.length_cons, List.length_nil, show ((((0 + 1 + 1 : Nat)) : Int) != (2 : Int)) = false from rfl, show ((((0 + 1 + 1 : Nat)) : Int) == (0 : Int)) = false from rfl, bne_t ho, cond_true, lvO, decide_eq_false ho]
    · have h1 : ((((a.pv :: b.pv :: c.pv :: l.map Tree.pv).length : Nat) : Int) == 0) = false := beq_f (by simp; omega)
      have h2 : ((((a.pv :: b.pv :: c.pv :: l.map Tree.pv).length : Nat) : Int) != 2) = true := bne_t (by simp; omega)
      simp only [List.map_cons, h1, h2, cond_true, cond_false, lvO, List.map_nil]
theorem wr_leaves1 (t : Tree) : wc W n_roadbookref06_leaves [t.pv, .int .i64 (1 : Int)] = some (.tup [.slice 0 ((lvO 4 t).1.map (PV.int .i64)), .bool (lvO 4 t).2]) := wr_leaves 4 t (by omega)
theorem wr_Leaves (t : Tree) : wc W n_roadbookref06_Leaves [t.pv] = some (.slice 0 ((lvO 4 t).1.map (PV.int .i64))) := by
  have h := e_roadbookref06_Leaves t.occ (t.l.map Tree.pv)
  simp only [Tree.fold] at h
  rw [h]
  simp [wr_leaves1]
def apart (l : List Int) : Bool := (List.range l.length).all fun i => (List.range i).all fun k => (l[k]?).all fun a => (l[i]?).all fun b => a != b
theorem apart_iff (l : List Int) : apart l = true ↔ l.Nodup := by
  unfold apart
  simp only [List.all_eq_true, List.mem_range]
  unfold List.Nodup
  rw [List.pairwise_iff_getElem]
  constructor
  · intro h i j hi hj hij e
    have := h j hj i hij
    rw [List.getElem?_eq_getElem hj, List.getElem?_eq_getElem (by omega)] at this
    simp at this
    exact this e
  · intro h i hi k hk
    rw [List.getElem?_eq_getElem hi, List.getElem?_eq_getElem (by omega)]
    simp only [Option.all_some, bne_iff_ne, ne_eq]
    exact h k i (by omega) hi hk
theorem wr_May (t : Tree) : wc W n_roadbookref06_May [t.pv] = some (.bool (apart (lvO 4 t).1 && (lvO 4 t).2)) := by
  have h := e_roadbookref06_May t.occ (t.l.map Tree.pv)
  simp only [Tree.fold] at h
  rw [h]
  simp only [wr_leaves1, Option.bind_some, asTup_mk, List.getElem?_cons_zero, List.getElem?_cons_succ, c_s0_mk, c_b_mk]
  generalize hL : (lvO 4 t).1 = l
  generalize (lvO 4 t).2 = b
  have hlen : l.length ≤ 16 := by rw [← hL]; exact lvO_len 4 t
  rw [loop_all (fun i => L_roadbookref06_May_1 (l.map (PV.int .i64)) b i) l.length (fun i => (List.range i).all fun k => (l[k]?).all fun a => (l[i]?).all fun b => a != b) (some (.bool false)) (some (.bool b)) ?_ ?_]
  · show (bif apart l then _ else _) = _
    cases apart l <;> cases b <;> rfl
  · intro i hi
    rw [L_roadbookref06_May_1_eq]
    simp only [List.length_map, lt_len hi, cond_true]
    rw [loop_all (fun k => L_roadbookref06_May_2 (l.map (PV.int .i64)) b i k) i (fun k => (l[k]?).all fun a => (l[i]?).all fun b => a != b) (some (.bool false)) (L_roadbookref06_May_1 (l.map (PV.int .i64)) b ((i : Int) + 1)) ?_ ?_]
    · intro k hk
      have hkl : k < l.length := by omega
      rw [L_roadbookref06_May_2_eq]
      simp only [lt_len hk, cond_true, nat_le, Int.toNat_natCast, List.getElem?_map, List.getElem?_eq_getElem hi, List.getElem?_eq_getElem hkl, Option.map_some, Option.bind_some, c_i64_mk, Option.all_some]
      rw [wrap64 (by omega) (by omega)]
      simp only [bne]
      cases l[k] == l[i] <;> rfl
    · rw [L_roadbookref06_May_2_eq]
      simp only [ge_len, cond_false]
      rw [wrap64 (by omega) (by omega)]
  · rw [L_roadbookref06_May_1_eq]; simp
def mask : List Int → Nat
  | [] => 0
  | o :: r => 2 ^ o.toNat ||| mask r
theorem mask_bit : ∀ (l : List Int), (∀ o ∈ l, 0 ≤ o ∧ o < 4) → ∀ i : Nat, (mask l).testBit i = decide ((i : Int) ∈ l)
  | [], _, i => by simp [mask]
  | o :: r, h, i => by
    have ho := h o (by simp)
    rw [mask, Nat.testBit_or, mask_bit r (fun x hx => h x (by simp [hx])) i, Nat.testBit_two_pow]
    rw [← Bool.decide_or]
    congr 1
    simp only [List.mem_cons, eq_iff_iff]
    constructor
    · rintro (e | e)
      · left; omega
      · exact .inr e
    · rintro (e | e)
      · left; omega
      · exact .inr e
theorem mask_app : ∀ (a b : List Int), mask (a ++ b) = mask a ||| mask b
  | [], b => by simp [mask]
  | o :: a, b => by simp [mask, mask_app a b, Nat.or_assoc]
theorem mask_lt : ∀ (l : List Int), (∀ o ∈ l, 0 ≤ o ∧ o < 4) → mask l < 16
  | [], _ => by simp [mask]
  | o :: r, h => by
    have ho := h o (by simp)
    exact or16 _ (pow4 _ (by omega)) _ (mask_lt r (fun x hx => h x (by simp [hx])))
theorem mask_and (a b : List Int) (ha : ∀ o ∈ a, 0 ≤ o ∧ o < 4) (hb : ∀ o ∈ b, 0 ≤ o ∧ o < 4) : mask a &&& mask b = 0 ↔ ∀ o ∈ a, o ∉ b := by
  constructor
  · intro h o h1 h2
    have h3 := ha o h1
    have e : (mask a &&& mask b).testBit o.toNat = true := by
      rw [Nat.testBit_and, mask_bit a ha, mask_bit b hb, Int.toNat_of_nonneg h3.1]
      simp [h1, h2]
    rw [h] at e
    simp at e
  · intro h
    apply Nat.eq_of_testBit_eq
    intro i
    rw [Nat.testBit_and, mask_bit a ha, mask_bit b hb]
    simp only [Nat.zero_testBit, Bool.and_eq_false_iff, decide_eq_false_iff_not]
    by_cases h1 : (i : Int) ∈ a
    · exact .inr (h _ h1)
    · exact .inl h1
theorem setO_lv : ∀ (d : Nat) (t : Tree) (m : Nat), setO d t = some m ↔ (lvO d t).2 = true ∧ (lvO d t).1.Nodup ∧ m = mask (lvO d t).1
  | 0, t, m => by simp [setO, lvO]
  | d + 1, ⟨o, l⟩, m => by
    rcases l with _ | ⟨a, _ | ⟨b, _ | ⟨c, l⟩⟩⟩ <;> simp only [setO, lvO]
    · by_cases h0 : 0 ≤ o <;> by_cases h4 : o < 4 <;> simp [h0, h4, mask, show (o ≤ 3) = (o < 4) from by simp; omega, eq_comm]
    · simp
    · by_cases ho : o = 0
      · simp only [decide_eq_true ho, cond_true]
        have ha := setO_lv d a
        have hb := setO_lv d b
        have in4 : ∀ t : Tree, (lvO d t).2 = true → ∀ o ∈ (lvO d t).1, 0 ≤ o ∧ o < 4 := fun t ht => lv_in d t ht
        constructor
        · intro h
          simp only [Option.bind_eq_some_iff] at h
          obtain ⟨x, hx, y, hy, h⟩ := h
          obtain ⟨h1, h2⟩ := bif_some h
          simp only [decide_eq_true_eq, Option.some.injEq] at h1 h2
          obtain ⟨a1, a2, a3⟩ := (ha x).1 hx
          obtain ⟨b1, b2, b3⟩ := (hb y).1 hy
          refine ⟨by simp [a1, b1], ?_, ?_⟩
          · rw [List.nodup_append]
            refine ⟨a2, b2, fun p hp q hq e => ?_⟩
            rw [a3, b3] at h1
            exact (mask_and _ _ (in4 a a1) (in4 b b1)).1 h1 p hp (by rw [e]; exact hq)
          · rw [mask_app, ← a3, ← b3, h2]
        · rintro ⟨h1, h2, rfl⟩
          simp only [Bool.and_eq_true] at h1
          rw [List.nodup_append] at h2
          rw [(ha _).2 ⟨h1.1, h2.1, rfl⟩, (hb _).2 ⟨h1.2, h2.2.1, rfl⟩]
          simp only [Option.bind_some]
          rw [decide_eq_true ((mask_and _ _ (in4 a h1.1) (in4 b h1.2)).2 (fun p hp hq => h2.2.2 p hp p hq rfl)), cond_true, mask_app]
      · simp [ho]
    · simp
where
  lv_in : ∀ (d : Nat) (t : Tree), (lvO d t).2 = true → ∀ o ∈ (lvO d t).1, 0 ≤ o ∧ o < 4
    | 0, t, h => by simp [lvO] at h
    | d + 1, ⟨o, l⟩, h => by
      rcases l with _ | ⟨a, _ | ⟨b, _ | ⟨c, l⟩⟩⟩ <;> simp only [lvO] at h ⊢
      · simp only [Bool.and_eq_true, decide_eq_true_eq] at h
        intro x hx; simp at hx; subst hx; omega
      · cases h
      · by_cases ho : o = 0
        · simp only [decide_eq_true ho, cond_true, Bool.and_eq_true] at h ⊢
          intro x hx
          rcases List.mem_append.1 hx with hx | hx
          · exact lv_in d a h.1 x hx
          · exact lv_in d b h.2 x hx
        · simp [ho] at h
      · cases h
theorem setO_none {d : Nat} {t : Tree} : setO d t = none ↔ (apart (lvO d t).1 && (lvO d t).2) = false := by
  constructor
  · intro h
    cases h1 : apart (lvO d t).1 <;> cases h2 : (lvO d t).2 <;> try rfl
    rw [(setO_lv d t _).2 ⟨h2, (apart_iff _).1 h1, rfl⟩] at h; cases h
  · intro h
    cases e : setO d t with
    | none => rfl
    | some m =>
      obtain ⟨h1, h2, _⟩ := (setO_lv d t m).1 e
      rw [(apart_iff _).2 h2, h1] at h; cases h
theorem wr_May' (t : Tree) : wc W n_roadbookref06_May [t.pv] = some (.bool (setO 4 t).isSome) := by
  rw [wr_May]
  cases e : setO 4 t with
  | none => rw [setO_none.1 e]; rfl
  | some m =>
    obtain ⟨h1, h2, _⟩ := (setO_lv 4 t m).1 e
    rw [(apart_iff _).2 h2, h1]; rfl
theorem add16 : ∀ x : Nat, x < 16 → ∀ y : Nat, y < 16 → x &&& y = 0 → x + y = x ||| y := by decide +kernel
theorem bits4 : ∀ o : Nat, o < 4 → [PV.int .i64 (1 : Int), PV.int .i64 (2 : Int), PV.int .i64 (4 : Int), PV.int .i64 (8 : Int)][o]? = some (PV.int .i64 ((2 ^ o : Nat) : Int))
  | 0, _ => rfl
  | 1, _ => rfl
  | 2, _ => rfl
  | 3, _ => rfl
theorem set_loop (l : List Int) (hl : l.length ≤ 16) (hn : l.Nodup) (h : ∀ o ∈ l, 0 ≤ o ∧ o < 4) : ∀ (suf pre : List Int), l = pre ++ suf →
    L_roadbookref06_Set_1 (l.map (PV.int .i64)) [PV.int .i64 (1 : Int), PV.int .i64 (2 : Int), PV.int .i64 (4 : Int), PV.int .i64 (8 : Int)] (mask pre : Int) (pre.length : Int) = some (.int .i64 (mask l : Int))
  | [], pre, e => by
    rw [L_roadbookref06_Set_1_eq]
    simp at e; subst e
    simp
  | o :: suf, pre, e => by
    have hlt : pre.length < l.length := by rw [e]; simp
    have ho := h o (by rw [e]; simp)
    have hg : l[pre.length]? = some o := by rw [e]; simp
    obtain ⟨n, rfl⟩ := Int.eq_ofNat_of_zero_le ho.1
    rw [L_roadbookref06_Set_1_eq]
    simp only [List.length_map, lt_len hlt, nat_le, cond_true, Int.toNat_natCast, List.getElem?_map, hg, Option.map_some, Option.bind_some, c_i64_mk]
    rw [bits4 n (by omega)]
    simp only [Option.bind_some, c_i64_mk]
    have hp : ∀ o ∈ pre, 0 ≤ o ∧ o < 4 := fun x hx => h x (by rw [e]; simp [hx])
    have h1 := mask_lt pre hp
    have h2 := pow4 n (by omega)
    have h3 : mask pre &&& 2 ^ n = 0 := by
      have := (mask_and pre [(n : Int)] hp (by intro o ho'; simp at ho'; subst ho'; exact ho)).2 (fun x hx hx2 => by
        simp at hx2; subst hx2
        rw [e, List.nodup_append] at hn
        exact hn.2.2 _ hx _ (by simp) rfl)
      simpa [mask] using this
    have h4 := add16 _ h1 _ h2 h3
    have h5 : mask (pre ++ [(n : Int)]) = mask pre + 2 ^ n := by rw [mask_app, h4]; simp [mask]
    rw [wrap64 (by omega) (by omega), wrap64 (by omega) (by omega)]
    have := set_loop l hl hn h suf (pre ++ [(n : Int)]) (by rw [e]; simp)
    rw [h5] at this
    simpa using this
theorem wr_Set (t : Tree) : wc W n_roadbookref06_Set [t.pv] = some (.int .i64 (((setO 4 t).getD 0 : Nat) : Int)) := by
  have h := e_roadbookref06_Set t.occ (t.l.map Tree.pv)
  simp only [Tree.fold] at h
  rw [h, wr_May', wr_Leaves]
  cases e : setO 4 t with
  | none => rfl
  | some m =>
    obtain ⟨h1, h2, h3⟩ := (setO_lv 4 t m).1 e
    have := set_loop (lvO 4 t).1 (lvO_len 4 t) h2 (setO_lv.lv_in 4 t h1) (lvO 4 t).1 [] rfl
    simp only [Option.bind_some, c_b_mk, Option.isSome_some, Bool.not_true, cond_false, c_s0_mk, Option.getD_some]
    rw [h3]
    exact this
end Go.Cf

namespace Go.Cf
open Go Go.Ab
set_option linter.unusedVariables false
set_option linter.unusedSimpArgs false
def bs (l : List UInt8) : ByteArray := ⟨l.toArray⟩
@[simp] theorem bs_size (l : List UInt8) : (bs l).size = l.length := by simp [bs, ByteArray.size]
theorem bs_app (a b : List UInt8) : bs a ++ bs b = bs (a ++ b) := by
  have : (bs a ++ bs b).data = (bs (a ++ b)).data := by simp [bs]
  cases h : bs a ++ bs b; rw [h] at this; cases h2 : bs (a ++ b); rw [h2] at this; simp_all
@[simp] theorem bs_data (s : ByteArray) : bs s.data.toList = s := by cases s; rfl
@[simp] theorem data_bs (l : List UInt8) : (bs l).data.toList = l := by simp [bs]
theorem bs_inj {a b : List UInt8} (h : bs a = bs b) : a = b := by rw [← data_bs a, ← data_bs b, h]
theorem bs_iff {a b : List UInt8} : bs a = bs b ↔ a = b := ⟨bs_inj, fun h => h ▸ rfl⟩
def Tree.tx : Tree → List UInt8
  | .mk o [] => [UInt8.ofNat (48 + o.toNat)]
  | .mk _ [a, b] => 40 :: (a.tx ++ b.tx ++ [41])
  | .mk _ [_] => []
  | .mk _ (_ :: _ :: _ :: _) => []
theorem tx_len : ∀ (d : Nat) (t : Tree) (m : Nat), setO (d + 1) t = some m → t.tx.length + 2 ≤ 3 * 2 ^ d
  | d, ⟨o, l⟩, m, h => by
    rcases setO_some h with ⟨rfl, h0, h4, _⟩ | ⟨a, b, x, y, rfl, rfl, hx, hy, _, _⟩
    · have := @Nat.one_le_two_pow d
      simp [Tree.tx]; omega
    · cases d with
      | zero => simp [setO] at hx
      | succ d =>
        have h1 := tx_len d a x hx
        have h2 := tx_len d b y hy
        simp only [Tree.tx, List.length_cons, List.length_append, List.length_nil, Nat.pow_succ]; omega
theorem setO_mono : ∀ (d : Nat) (t : Tree) (m : Nat), setO d t = some m → setO (d + 1) t = some m
  | 0, t, m, h => by simp [setO] at h
  | d + 1, ⟨o, l⟩, m, h => by
    rcases setO_some h with ⟨rfl, h0, h4, rfl⟩ | ⟨a, b, x, y, rfl, rfl, hx, hy, hxy, rfl⟩
    · simp [setO, h0, h4]
    · simp [setO, setO_mono d a x hx, setO_mono d b y hy, hxy]
theorem setO_le {d e : Nat} (h : d ≤ e) {t : Tree} {m : Nat} (hs : setO d t = some m) : setO e t = some m := by
  induction h with
  | refl => exact hs
  | step _ ih => exact setO_mono _ _ _ ih
theorem leaf_text : ∀ o : Nat, o < 4 → Utf8.encode (IntKind.wrap .i32 (IntKind.wrap .i64 ((48 : Int) + (o : Int)))) = bs [UInt8.ofNat (48 + o)] ∧ strOfInts [IntKind.wrap .u8 (IntKind.wrap .i64 ((48 : Int) + (o : Int)))] = bs [UInt8.ofNat (48 + o)]
  | 0, _ => ⟨rfl, rfl⟩
  | 1, _ => ⟨rfl, rfl⟩
  | 2, _ => ⟨rfl, rfl⟩
  | 3, _ => ⟨rfl, rfl⟩
theorem join_text {d : Nat} {a b : Tree} {x y : Nat} (hd : d ≤ 50) (ha : setO d a = some x) (hb : setO d b = some y) : a.tx.length + b.tx.length + 2 ≤ 9223372036854775807 := by
  cases d with
  | zero => simp [setO] at ha
  | succ d =>
    have h1 := tx_len d a x ha
    have h2 := tx_len d b y hb
    have h3 : 2 ^ d ≤ 2 ^ 50 := Nat.pow_le_pow_right (by omega) (by omega)
    omega
theorem w_text : ∀ (d : Nat) (t : Tree) (m : Nat), d ≤ 50 → setO d t = some m → wc W n_tree_text [t.pv] = some (.str (bs t.tx))
  | 0, t, m, _, h => by simp [setO] at h
  | d + 1, ⟨o, l⟩, m, hd, h => by
    rw [Tree.pv_mk, e_tree_text]
    rcases setO_some h with ⟨rfl, h0, h4, _⟩ | ⟨a, b, x, y, rfl, rfl, hx, hy, _, _⟩
    · obtain ⟨n, rfl⟩ := Int.eq_ofNat_of_zero_le h0
      simp only [List.map_nil, List.length_nil, show ((((0 : Nat)) : Int) == (0 : Int)) = true from rfl, cond_true, (leaf_text n (by omega)).1, Tree.tx, Int.toNat_natCast]
    · have hl := join_text (by omega) hx hy
      simp only [List.map_cons, List.map_nil, List.length_cons, List.length_nil, show ((((0 + 1 + 1 : Nat)) : Int) == (0 : Int)) = false from rfl, cond_false, List.getElem?_cons_zero, List.getElem?_cons_succ, Option.bind_some, Tree.c_mk, Tree.fold,
        w_text d a x (by omega) hx, w_text d b y (by omega) hy, c_t_mk, show ByteArray.mk (List.toArray [(40 : UInt8)]) = bs [40] from rfl, show ByteArray.mk (List.toArray [(41 : UInt8)]) = bs [41] from rfl, bs_size, bs_app]
      simp only [List.length_append, List.length_cons, List.length_nil, List.singleton_append]
      rw [decide_eq_true (by first | omega | (simp; omega)), cond_true, Option.bind_some, c_t_mk, decide_eq_true (by first | omega | (simp; omega)), cond_true, Option.bind_some, c_t_mk, bs_app, bs_size]
      rw [decide_eq_true (by first | omega | (simp; omega)), cond_true, Option.bind_some, c_t_mk, bs_app]
      simp [Tree.tx]
theorem w_Text (t : Tree) : wc W n_tree_Text [t.pv] = some (.str (match setO 4 t with | some _ => bs t.tx | none => bs [])) := by
  have h := e_tree_Text t.occ (t.l.map Tree.pv)
  simp only [Tree.fold] at h
  rw [h, w_May]
  cases e : setO 4 t with
  | none => rfl
  | some m => simp [w_text 4 t m (by omega) e]
theorem wr_text : ∀ (d : Nat) (t : Tree) (m : Nat), d ≤ 4 → setO d t = some m → wc W n_roadbookref06_Text [t.pv] = some (.str (bs t.tx))
  | 0, t, m, _, h => by simp [setO] at h
  | d + 1, ⟨o, l⟩, m, hd, h => by
    have hm := wr_May' (.mk o l)
    rw [setO_le hd h] at hm
    rw [Tree.pv_mk] at hm
    rw [Tree.pv_mk, e_roadbookref06_Text, hm]
    rcases setO_some h with ⟨rfl, h0, h4, _⟩ | ⟨a, b, x, y, rfl, rfl, hx, hy, _, _⟩
    · obtain ⟨n, rfl⟩ := Int.eq_ofNat_of_zero_le h0
      simp only [Option.bind_some, c_b_mk, Option.isSome_some, Bool.not_true, cond_false, List.map_nil, List.length_nil, show ((((0 : Nat)) : Int) == (0 : Int)) = true from rfl, cond_true, (leaf_text n (by omega)).2, Tree.tx, Int.toNat_natCast]
    · have hl := join_text (by omega) hx hy
      simp only [Option.bind_some, c_b_mk, Option.isSome_some, Bool.not_true, cond_false, List.map_cons, List.map_nil, List.length_cons, List.length_nil, show ((((0 + 1 + 1 : Nat)) : Int) == (0 : Int)) = false from rfl, cond_false, List.getElem?_cons_zero, List.getElem?_cons_succ, Option.bind_some, Tree.c_mk, Tree.fold,
        wr_text d a x (by omega) hx, wr_text d b y (by omega) hy, c_t_mk, show ByteArray.mk (List.toArray [(40 : UInt8)]) = bs [40] from rfl, show ByteArray.mk (List.toArray [(41 : UInt8)]) = bs [41] from rfl, bs_size, bs_app]
      simp only [List.length_append, List.length_cons, List.length_nil, List.singleton_append]
      rw [decide_eq_true (by first | omega | (simp; omega)), cond_true, Option.bind_some, c_t_mk, decide_eq_true (by first | omega | (simp; omega)), cond_true, Option.bind_some, c_t_mk, bs_app, bs_size]
      rw [decide_eq_true (by first | omega | (simp; omega)), cond_true, Option.bind_some, c_t_mk, bs_app]
      simp [Tree.tx]
theorem wr_Text (t : Tree) : wc W n_roadbookref06_Text [t.pv] = some (.str (match setO 4 t with | some _ => bs t.tx | none => bs [])) := by
  cases e : setO 4 t with
  | none =>
    have h := e_roadbookref06_Text t.occ (t.l.map Tree.pv)
    simp only [Tree.fold] at h
    rw [h, wr_May', e]; rfl
  | some m => exact wr_text 4 t m (by omega) e
end Go.Cf
