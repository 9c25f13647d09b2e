/- Part 13 of the proof: an abstract machine that runs the program's code over plain values, its soundness, and what the functions tell of plain values. Conditions: those in each theorem. -/
import Derived.Test.YtgebkpchpliahaaDoorA11
import Derived.Carry
set_option linter.unusedSectionVars false
namespace Go.Ab
open Go.RowKit (Below)
set_option linter.unusedVariables false
set_option linter.unusedSimpArgs false
variable [GL : Gl]
section
variable {c : Cfg} {t e : TypeId} {p : PV}
theorem Typed.int_inv {k : IntKind} (h : Typed c t p) (hk : (c.at_ t).k = .int k) : ∃ n, p = .int k n ∧ (Lit.int k n).wf = true := by
  cases h with
  | int t k' n h hw => rw [hk] at h; cases h; exact ⟨n, rfl, hw⟩
  | bool t b h => rw [hk] at h; cases h
  | str t s h => rw [hk] at h; cases h
  | slice t e xs h => rw [hk] at h; cases h
  | struct t fs ps h => rw [hk] at h; cases h
  | arr t e n ps h => rw [hk] at h; cases h
theorem Typed.bool_inv (h : Typed c t p) (hk : (c.at_ t).k = .bool) : ∃ b, p = .bool b := by
  cases h with
  | int t k' n h hw => rw [hk] at h; cases h
  | bool t b h => exact ⟨b, rfl⟩
  | str t s h => rw [hk] at h; cases h
  | slice t e xs h => rw [hk] at h; cases h
  | struct t fs ps h => rw [hk] at h; cases h
  | arr t e n ps h => rw [hk] at h; cases h
theorem Typed.str_inv (h : Typed c t p) (hk : (c.at_ t).k = .str) : ∃ s, p = .str s ∧ s.size ≤ maxLen := by
  cases h with
  | int t k' n h hw => rw [hk] at h; cases h
  | bool t b h => rw [hk] at h; cases h
  | str t s h hs => exact ⟨s, rfl, hs⟩
  | slice t e xs h => rw [hk] at h; cases h
  | struct t fs ps h => rw [hk] at h; cases h
  | arr t e n ps h => rw [hk] at h; cases h
theorem Typed.slice_inv (h : Typed c t p) (hk : (c.at_ t).k = .slice e) : ∃ xs, p = .slice (c.sh e) xs ∧ xs.length ≤ maxLen ∧ ∀ x ∈ xs, Typed c e x := by
  cases h with
  | int t k' n h hw => rw [hk] at h; cases h
  | bool t b h => rw [hk] at h; cases h
  | str t s h => rw [hk] at h; cases h
  | slice t e xs h hl hx => rw [hk] at h; cases h; exact ⟨xs, rfl, hl, hx⟩
  | struct t fs ps h => rw [hk] at h; cases h
  | arr t e n ps h => rw [hk] at h; cases h
theorem Typed.arr_inv {n : Nat} (h : Typed c t p) (hk : (c.at_ t).k = .arr n e) : ∃ ps : List PV, p = .agg (ps.flatMap PV.cells) ∧ ps.length = n ∧ ∀ x ∈ ps, Typed c e x := by
  cases h with
  | int t k' n h hw => rw [hk] at h; cases h
  | bool t b h => rw [hk] at h; cases h
  | str t s h => rw [hk] at h; cases h
  | slice t e xs h => rw [hk] at h; cases h
  | struct t fs ps h => rw [hk] at h; cases h
  | arr t e n ps h hl hx => rw [hk] at h; cases h; exact ⟨ps, rfl, hl, hx⟩
def TypedL (c : Cfg) : List TypeId → List PV → Prop
  | [], [] => True
  | t :: ts, p :: ps => Typed c t p ∧ TypedL c ts ps
  | _, _ => False
theorem typedL_of {c : Cfg} : ∀ {fs : List (TypeId × Nat)} {ps : List PV}, ps.length = fs.length → (∀ (i : Nat) (f : TypeId × Nat) (p : PV), fs[i]? = some f → ps[i]? = some p → Typed c f.1 p) → TypedL c (fs.map (·.1)) ps
  | [], [], _, _ => trivial
  | [], _ :: _, h, _ => by simp at h
  | _ :: _, [], h, _ => by simp at h
  | f :: fs, p :: ps, h, k => ⟨k 0 f p rfl rfl, typedL_of (by simpa using h) fun i f p hf hp => k (i + 1) f p (by simpa using hf) (by simpa using hp)⟩
theorem Typed.struct_inv {fs : List (TypeId × Nat)} (h : Typed c t p) (hk : (c.at_ t).k = .struct fs) : ∃ ps : List PV, p = .agg (ps.flatMap PV.cells) ∧ TypedL c (fs.map (·.1)) ps := by
  cases h with
  | int t k' n h hw => rw [hk] at h; cases h
  | bool t b h => rw [hk] at h; cases h
  | str t s h => rw [hk] at h; cases h
  | slice t e xs h => rw [hk] at h; cases h
  | struct t fs ps h hl hp => rw [hk] at h; cases h; exact ⟨ps, rfl, typedL_of hl hp⟩
  | arr t e n ps h => rw [hk] at h; cases h
theorem typedL1 {a : TypeId} {ps : List PV} (h : TypedL c [a] ps) : ∃ x, ps = [x] ∧ Typed c a x := by
  match ps, h with
  | [x], h => exact ⟨x, rfl, h.1⟩
theorem typedL_cons {a : TypeId} {ts : List TypeId} {ps : List PV} (h : TypedL c (a :: ts) ps) : ∃ x qs, ps = x :: qs ∧ Typed c a x ∧ TypedL c ts qs := by
  match ps, h with
  | x :: qs, h => exact ⟨x, qs, rfl, h.1, h.2⟩
theorem typedL_nil {ps : List PV} (h : TypedL c [] ps) : ps = [] := by
  match ps, h with
  | [], h => rfl
theorem list_of {α : Type} {Q : α → Prop} {f : α → PV} : ∀ {xs : List PV}, (∀ x ∈ xs, ∃ a, x = f a ∧ Q a) → ∃ l : List α, xs = l.map f ∧ ∀ a ∈ l, Q a
  | [], _ => ⟨[], rfl, by simp⟩
  | x :: xs, h => by
    obtain ⟨a, rfl, ha⟩ := h x (by simp)
    obtain ⟨l, rfl, hl⟩ := list_of (xs := xs) (fun y hy => h y (List.mem_cons_of_mem _ hy))
    exact ⟨a :: l, rfl, by simpa using ⟨ha, hl⟩⟩
end
end Go.Ab

namespace Go.Cf
open Go Go.Ab
set_option linter.unusedVariables false
theorem ty_int {p : PV} (h : Typed cfg t_int p) : ∃ n : Int, p = .int .i64 n ∧ I64 n := by
  obtain ⟨n, rfl, hw⟩ := h.int_inv (k := .i64) (by kernel_rfl)
  exact ⟨n, rfl, wf_i64 hw⟩
theorem ty_string {p : PV} (h : Typed cfg t_string p) : ∃ s : ByteArray, p = .str s ∧ s.size ≤ maxLen := h.str_inv (by kernel_rfl)
end Go.Cf

namespace Go.Cf
open Go Go.Ab
set_option linter.unusedVariables false
set_option maxRecDepth 100000
noncomputable def jF3 : Jn PV := (Classical.choose (exT fi3 (fin cfg fi3))).1
noncomputable def lF3 : Ln PV := (Classical.choose (exT fi3 (fin cfg fi3))).2
theorem T3 : Tied cfg W fi3 (fin cfg fi3) jF3 lF3 := Classical.choose_spec (exT fi3 (fin cfg fi3))
noncomputable def J_roadbooklaw03_BagSorts_1 (i5 : Int) (l6 : List PV) (l7 : List PV) : Option PV := jF3 [1, 1, 1, 1] (St.mk [(1, (AV.pv (PV.int .i64 i5))), (2, (AV.pv (PV.imm 3 (PV.agg [(PV.slice 0 l6), (PV.slice 0 l7)]) 0)))] [])
noncomputable def J_roadbooklaw03_BagSorts_2 (i20 : Int) (l21 : List PV) (l22 : List PV) (l23 : List PV) (l24 : List PV) : Option PV := jF3 [1, 1, 1, 1, 1, 1] (St.mk [(1, (AV.pv (PV.int .i64 i20))), (2, (AV.pv (PV.imm 3 (PV.agg [(PV.slice 0 l21), (PV.slice 0 l22)]) 0))), (7, (AV.own 0 0))] [(Ob.var false 3 (AV.pv (PV.agg [(PV.slice 0 l23), (PV.slice 0 l24)])))])
theorem J_roadbooklaw03_BagSorts_1_eq (i5 : Int) (l6 : List PV) (l7 : List PV) : J_roadbooklaw03_BagSorts_1 i5 l6 l7 =
  (((wc W n_bag_Sort [(PV.agg [(PV.slice 0 l6), (PV.slice 0 l7)]), (PV.int .i64 i5)])).bind (fun v8 => (c_g_s0_s0 v8 (fun v9 v10 => (((wc W n_bag_Sorted [(PV.agg [(PV.slice 0 v9), (PV.slice 0 v10)]), (PV.int .i64 i5)])).bind (fun v11 => (c_b v11 (fun v12 => (bif (!v12) then (some (PV.bool false)) else (((wc W n_bag_Same [(PV.agg [(PV.slice 0 v9), (PV.slice 0 v10)]), (PV.agg [(PV.slice 0 l6), (PV.slice 0 l7)])])).bind (fun v13 => (c_b v13 (fun v14 => (bif (!v14) then (some (PV.bool false)) else (((wc W n_bag_Sort [(PV.agg [(PV.slice 0 v9), (PV.slice 0 v10)]), (PV.int .i64 i5)])).bind (fun v15 => (c_g_s0_s0 v15 (fun v16 v17 => (((wc W n_roadbookref03_Like [(PV.agg [(PV.slice 0 v16), (PV.slice 0 v17)]), (PV.agg [(PV.slice 0 v9), (PV.slice 0 v10)])])).bind (fun v18 => (c_b v18 (fun v19 => (bif (!v19) then (some (PV.bool false)) else (J_roadbooklaw03_BagSorts_2 i5 l6 l7 v9 v10)))))))))))))))))))))))) := (T3.join [1, 1, 1, 1] _).trans (by kernel_rfl)
theorem J_roadbooklaw03_BagSorts_2_eq (i20 : Int) (l21 : List PV) (l22 : List PV) (l23 : List PV) (l24 : List PV) : J_roadbooklaw03_BagSorts_2 i20 l21 l22 l23 l24 =
  (((wc W n_bag_Sorted [(PV.agg [(PV.slice 0 l21), (PV.slice 0 l22)]), (PV.int .i64 i20)])).bind (fun v25 => (c_b v25 (fun v26 => (bif (!v26) then (some (PV.bool true)) else (((wc W n_roadbookref03_Like [(PV.agg [(PV.slice 0 l23), (PV.slice 0 l24)]), (PV.agg [(PV.slice 0 l21), (PV.slice 0 l22)])])).bind (fun v27 => (c_b v27 (fun v28 => (some (PV.bool v28))))))))))) := (T3.join [1, 1, 1, 1, 1, 1] _).trans (by kernel_rfl)
theorem e_roadbooklaw03_BagSorts (a0_0 : List PV) (a0_1 : List PV) (a1 : Int) : wc W n_roadbooklaw03_BagSorts [(PV.agg [(PV.slice 0 a0_0), (PV.slice 0 a0_1)]), (PV.int .i64 a1)] =
  (((wc W n_roadbooklaw03_awake [])).bind (fun v1 => (c_b v1 (fun v2 => (((wc W n_roadbooklaw03_few [(PV.agg [(PV.slice 0 a0_0), (PV.slice 0 a0_1)]), (PV.int .i64 (60 : Int))])).bind (fun v3 => (c_b v3 (fun v4 => (bif (!v2) then (some (PV.bool v2)) else (bif (!v4) then (some (PV.bool v2)) else (J_roadbooklaw03_BagSorts_1 a1 a0_0 a0_1))))))))))) := go (by kernel_rfl) (by kernel_rfl) T3 (by kernel_rfl)
noncomputable def jF4 : Jn PV := (Classical.choose (exT fi4 (fin cfg fi4))).1
noncomputable def lF4 : Ln PV := (Classical.choose (exT fi4 (fin cfg fi4))).2
theorem T4 : Tied cfg W fi4 (fin cfg fi4) jF4 lF4 := Classical.choose_spec (exT fi4 (fin cfg fi4))
noncomputable def J_roadbooklaw03_BagSame_1 (l7 : List PV) (l8 : List PV) (l9 : List PV) (l10 : List PV) (l11 : List PV) : Option PV := jF4 [1, 1, 1, 1, 1] (St.mk [(2, (AV.pv (PV.slice 3 l7))), (3, (AV.pv (PV.imm 3 (PV.agg [(PV.slice 0 l8), (PV.slice 0 l9)]) 0))), (4, (AV.pv (PV.imm 3 (PV.agg [(PV.slice 0 l10), (PV.slice 0 l11)]) 0)))] [])
theorem J_roadbooklaw03_BagSame_1_eq (l7 : List PV) (l8 : List PV) (l9 : List PV) (l10 : List PV) (l11 : List PV) : J_roadbooklaw03_BagSame_1 l7 l8 l9 l10 l11 =
  (bif (decide ((List.length l9) ≤ 4294967296)) then (bif (true && (decide (((List.length l9) + 1 : Nat) ≤ 4294967296))) then (bif (true && (decide ((1 + (List.length l9) : Nat) ≤ 4294967296))) then (((wc W n_bag_Same [(PV.agg [(PV.slice 0 l8), (PV.slice 0 l9)]), (PV.agg [(PV.slice 0 l8), (PV.slice 0 l9)])])).bind (fun v12 => (c_b v12 (fun v13 => (bif v13 then (((wc W n_bag_Same [(PV.agg [(PV.slice 0 l8), (PV.slice 0 l9)]), (PV.agg [(PV.slice 0 l10), (PV.slice 0 l11)])])).bind (fun v14 => (c_b v14 (fun v15 => (((wc W n_bag_Same [(PV.agg [(PV.slice 0 l10), (PV.slice 0 l11)]), (PV.agg [(PV.slice 0 l8), (PV.slice 0 l9)])])).bind (fun v16 => (c_b v16 (fun v17 => (bif (v15 == v17) then (((wc W n_bag_Same [(PV.agg [(PV.slice 0 l8), (PV.slice 0 l9)]), (PV.agg [(PV.slice 0 l8), (PV.slice 0 (l9 ++ [(PV.slice 3 l7)]))])])).bind (fun v18 => (c_b v18 (fun v19 => (bif (!v19) then (((wc W n_bag_Same [(PV.agg [(PV.slice 0 l8), (PV.slice 0 (l9 ++ [(PV.slice 3 l7)]))]), (PV.agg [(PV.slice 0 l8), (PV.slice 0 ((PV.slice 3 l7) :: l9))])])).bind (fun v20 => (c_b v20 (fun v21 => (some (PV.bool v21)))))) else (some (PV.bool false))))))) else (some (PV.bool false))))))))))) else (some (PV.bool false))))))) else none) else none) else none) := (T4.join [1, 1, 1, 1, 1] _).trans (by kernel_rfl)
theorem e_roadbooklaw03_BagSame (a0_0 : List PV) (a0_1 : List PV) (a1_0 : List PV) (a1_1 : List PV) (a2 : List PV) : wc W n_roadbooklaw03_BagSame [(PV.agg [(PV.slice 0 a0_0), (PV.slice 0 a0_1)]), (PV.agg [(PV.slice 0 a1_0), (PV.slice 0 a1_1)]), (PV.slice 3 a2)] =
  (((wc W n_roadbooklaw03_awake [])).bind (fun v1 => (c_b v1 (fun v2 => (((wc W n_roadbooklaw03_few [(PV.agg [(PV.slice 0 a0_0), (PV.slice 0 a0_1)]), (PV.int .i64 (60 : Int))])).bind (fun v3 => (c_b v3 (fun v4 => (((wc W n_roadbooklaw03_few [(PV.agg [(PV.slice 0 a1_0), (PV.slice 0 a1_1)]), (PV.int .i64 (60 : Int))])).bind (fun v5 => (c_b v5 (fun v6 => (bif (!v2) then (some (PV.bool v2)) else (bif (!v4) then (some (PV.bool v2)) else (bif (!v6) then (some (PV.bool v2)) else (bif (decide (GT.gt (((List.length a2) : Nat) : Int) (20 : Int))) then (some (PV.bool v2)) else (J_roadbooklaw03_BagSame_1 a2 a0_0 a0_1 a1_0 a1_1))))))))))))))))) := go (by kernel_rfl) (by kernel_rfl) T4 (by kernel_rfl)
noncomputable def jF5 : Jn PV := (Classical.choose (exT fi5 (fin cfg fi5))).1
noncomputable def lF5 : Ln PV := (Classical.choose (exT fi5 (fin cfg fi5))).2
theorem T5 : Tied cfg W fi5 (fin cfg fi5) jF5 lF5 := Classical.choose_spec (exT fi5 (fin cfg fi5))
noncomputable def J_roadbooklaw03_BagCrosses_1 (l9 : List PV) (l10 : List PV) (l11 : List PV) (l12 : List PV) (l13 : List PV) (l14 : List PV) : Option PV := jF5 [1, 1, 1, 1, 1, 1] (St.mk [(3, (AV.pv (PV.imm 3 (PV.agg [(PV.slice 0 l9), (PV.slice 0 l10)]) 0))), (4, (AV.pv (PV.imm 3 (PV.agg [(PV.slice 0 l11), (PV.slice 0 l12)]) 0))), (5, (AV.pv (PV.imm 3 (PV.agg [(PV.slice 0 l13), (PV.slice 0 l14)]) 0)))] [])
noncomputable def J_roadbooklaw03_BagCrosses_2 (l31 : List PV) (l32 : List PV) (l33 : List PV) (l34 : List PV) (l35 : List PV) (l36 : List PV) (b37 : Bool) (b38 : Bool) (b39 : Bool) (l40 : List PV) (l41 : List PV) (l42 : List PV) (l43 : List PV) : Option PV := jF5 [1, 0, 1, 1, 1, 1, 1, 1, 1, 1] (St.mk [(3, (AV.pv (PV.imm 3 (PV.agg [(PV.slice 0 l31), (PV.slice 0 l32)]) 0))), (4, (AV.pv (PV.imm 3 (PV.agg [(PV.slice 0 l33), (PV.slice 0 l34)]) 0))), (5, (AV.pv (PV.imm 3 (PV.agg [(PV.slice 0 l35), (PV.slice 0 l36)]) 0))), (11, (AV.own 0 0)), (12, (AV.pv (PV.bool b37))), (13, (AV.own 1 0)), (14, (AV.pv (PV.bool b38))), (63, (AV.pv (PV.bool b39)))] [(Ob.var false 3 (AV.pv (PV.agg [(PV.slice 0 l40), (PV.slice 0 l41)]))), (Ob.var false 3 (AV.pv (PV.agg [(PV.slice 0 l42), (PV.slice 0 l43)])))])
noncomputable def J_roadbooklaw03_BagCrosses_3 (l54 : List PV) (l55 : List PV) (l56 : List PV) (l57 : List PV) (l58 : List PV) (l59 : List PV) (l60 : List PV) (l61 : List PV) (l62 : List PV) (l63 : List PV) (l64 : List PV) (l65 : List PV) : Option PV := jF5 [1, 1, 1, 1, 1, 1, 1, 1, 1, 1, 1] (St.mk [(3, (AV.pv (PV.imm 3 (PV.agg [(PV.slice 0 l54), (PV.slice 0 l55)]) 0))), (4, (AV.pv (PV.imm 3 (PV.agg [(PV.slice 0 l56), (PV.slice 0 l57)]) 0))), (5, (AV.pv (PV.imm 3 (PV.agg [(PV.slice 0 l58), (PV.slice 0 l59)]) 0))), (11, (AV.own 0 0))] [(Ob.var false 3 (AV.pv (PV.agg [(PV.slice 0 l60), (PV.slice 0 l61)]))), (Ob.var false 3 (AV.pv (PV.agg [(PV.slice 0 l62), (PV.slice 0 l63)]))), (Ob.var false 3 (AV.pv (PV.agg [(PV.slice 0 l64), (PV.slice 0 l65)])))])
theorem J_roadbooklaw03_BagCrosses_1_eq (l9 : List PV) (l10 : List PV) (l11 : List PV) (l12 : List PV) (l13 : List PV) (l14 : List PV) : J_roadbooklaw03_BagCrosses_1 l9 l10 l11 l12 l13 l14 =
  (((wc W n_bag_Cross [(PV.agg [(PV.slice 0 l9), (PV.slice 0 l10)]), (PV.agg [(PV.slice 0 l11), (PV.slice 0 l12)])])).bind (fun v15 => (((PV.asTup v15)).bind (fun v16 => (((v16)[0]?).bind (fun v17 => (c_g_s0_s0 v17 (fun v18 v19 => (((PV.asTup v15)).bind (fun v20 => (((v20)[1]?).bind (fun v21 => (c_b v21 (fun v22 => (((wc W n_bag_Cross [(PV.agg [(PV.slice 0 l11), (PV.slice 0 l12)]), (PV.agg [(PV.slice 0 l9), (PV.slice 0 l10)])])).bind (fun v23 => (((PV.asTup v23)).bind (fun v24 => (((v24)[0]?).bind (fun v25 => (c_g_s0_s0 v25 (fun v26 v27 => (((PV.asTup v23)).bind (fun v28 => (((v28)[1]?).bind (fun v29 => (c_b v29 (fun v30 => (bif (!(v22 == v30)) then (J_roadbooklaw03_BagCrosses_2 l9 l10 l11 l12 l13 l14 v22 v30 true v18 v19 v26 v27) else (J_roadbooklaw03_BagCrosses_2 l9 l10 l11 l12 l13 l14 v22 v30 (!v22) v18 v19 v26 v27)))))))))))))))))))))))))))))) := (T5.join [1, 1, 1, 1, 1, 1] _).trans (by kernel_rfl)
theorem J_roadbooklaw03_BagCrosses_2_eq (l31 : List PV) (l32 : List PV) (l33 : List PV) (l34 : List PV) (l35 : List PV) (l36 : List PV) (b37 : Bool) (b38 : Bool) (b39 : Bool) (l40 : List PV) (l41 : List PV) (l42 : List PV) (l43 : List PV) : J_roadbooklaw03_BagCrosses_2 l31 l32 l33 l34 l35 l36 b37 b38 b39 l40 l41 l42 l43 =
  (bif b39 then (some (PV.bool (b37 == b38))) else (((wc W n_bag_Pick [(PV.agg [(PV.slice 0 l42), (PV.slice 0 l43)]), (PV.slice 0 l40)])).bind (fun v44 => (((PV.asTup v44)).bind (fun v45 => (((v45)[0]?).bind (fun v46 => (c_g_s0_s0 v46 (fun v47 v48 => (((PV.asTup v44)).bind (fun v49 => (((v49)[1]?).bind (fun v50 => (c_b v50 (fun v51 => (bif (!v51) then (some (PV.bool false)) else (((wc W n_bag_Same [(PV.agg [(PV.slice 0 v47), (PV.slice 0 v48)]), (PV.agg [(PV.slice 0 l40), (PV.slice 0 l41)])])).bind (fun v52 => (c_b v52 (fun v53 => (bif (!v53) then (some (PV.bool false)) else (bif ((((List.length l41) : Nat) : Int) != (IntKind.wrap .i64 ((((List.length l32) : Nat) : Int) * (((List.length l34) : Nat) : Int) : Int))) then (some (PV.bool false)) else (J_roadbooklaw03_BagCrosses_3 l31 l32 l33 l34 l35 l36 l40 l41 l42 l43 v47 v48))))))))))))))))))))))) := (T5.join [1, 1, 1, 1, 1, 1, 1, 1, 0, 1] _).trans (by kernel_rfl)
theorem J_roadbooklaw03_BagCrosses_3_eq (l54 : List PV) (l55 : List PV) (l56 : List PV) (l57 : List PV) (l58 : List PV) (l59 : List PV) (l60 : List PV) (l61 : List PV) (l62 : List PV) (l63 : List PV) (l64 : List PV) (l65 : List PV) : J_roadbooklaw03_BagCrosses_3 l54 l55 l56 l57 l58 l59 l60 l61 l62 l63 l64 l65 =
  (((wc W n_bag_Cross [(PV.agg [(PV.slice 0 l56), (PV.slice 0 l57)]), (PV.agg [(PV.slice 0 l58), (PV.slice 0 l59)])])).bind (fun v66 => (((PV.asTup v66)).bind (fun v67 => (((v67)[0]?).bind (fun v68 => (c_g_s0_s0 v68 (fun v69 v70 => (((PV.asTup v66)).bind (fun v71 => (((v71)[1]?).bind (fun v72 => (c_b v72 (fun v73 => (((wc W n_bag_Cross [(PV.agg [(PV.slice 0 l60), (PV.slice 0 l61)]), (PV.agg [(PV.slice 0 l58), (PV.slice 0 l59)])])).bind (fun v74 => (((PV.asTup v74)).bind (fun v75 => (((v75)[0]?).bind (fun v76 => (c_g_s0_s0 v76 (fun v77 v78 => (((PV.asTup v74)).bind (fun v79 => (((v79)[1]?).bind (fun v80 => (c_b v80 (fun v81 => (((wc W n_bag_Cross [(PV.agg [(PV.slice 0 l54), (PV.slice 0 l55)]), (PV.agg [(PV.slice 0 v69), (PV.slice 0 v70)])])).bind (fun v82 => (((PV.asTup v82)).bind (fun v83 => (((v83)[0]?).bind (fun v84 => (c_g_s0_s0 v84 (fun v85 v86 => (((PV.asTup v82)).bind (fun v87 => (((v87)[1]?).bind (fun v88 => (c_b v88 (fun v89 => (bif v73 then (bif (v81 == v89) then (bif (!v81) then (some (PV.bool true)) else (((wc W n_roadbookref03_Like [(PV.agg [(PV.slice 0 v77), (PV.slice 0 v78)]), (PV.agg [(PV.slice 0 v85), (PV.slice 0 v86)])])).bind (fun v90 => (c_b v90 (fun v91 => (some (PV.bool v91))))))) else (some (PV.bool false))) else (bif (v81 == false) then (bif (!v81) then (some (PV.bool true)) else (((wc W n_roadbookref03_Like [(PV.agg [(PV.slice 0 v77), (PV.slice 0 v78)]), (PV.agg [(PV.slice 0 v85), (PV.slice 0 v86)])])).bind (fun v92 => (c_b v92 (fun v93 => (some (PV.bool v93))))))) else (some (PV.bool false)))))))))))))))))))))))))))))))))))))))))))))) := (T5.join [1, 1, 1, 1, 1, 1, 1, 1, 1, 1, 1] _).trans (by kernel_rfl)
theorem e_roadbooklaw03_BagCrosses (a0_0 : List PV) (a0_1 : List PV) (a1_0 : List PV) (a1_1 : List PV) (a2_0 : List PV) (a2_1 : List PV) : wc W n_roadbooklaw03_BagCrosses [(PV.agg [(PV.slice 0 a0_0), (PV.slice 0 a0_1)]), (PV.agg [(PV.slice 0 a1_0), (PV.slice 0 a1_1)]), (PV.agg [(PV.slice 0 a2_0), (PV.slice 0 a2_1)])] =
  (((wc W n_roadbooklaw03_awake [])).bind (fun v1 => (c_b v1 (fun v2 => (((wc W n_roadbooklaw03_few [(PV.agg [(PV.slice 0 a0_0), (PV.slice 0 a0_1)]), (PV.int .i64 (12 : Int))])).bind (fun v3 => (c_b v3 (fun v4 => (((wc W n_roadbooklaw03_few [(PV.agg [(PV.slice 0 a1_0), (PV.slice 0 a1_1)]), (PV.int .i64 (12 : Int))])).bind (fun v5 => (c_b v5 (fun v6 => (((wc W n_roadbooklaw03_few [(PV.agg [(PV.slice 0 a2_0), (PV.slice 0 a2_1)]), (PV.int .i64 (12 : Int))])).bind (fun v7 => (c_b v7 (fun v8 => (bif (!v2) then (some (PV.bool v2)) else (bif (!v4) then (some (PV.bool v2)) else (bif (!v6) then (some (PV.bool v2)) else (bif (!v8) then (some (PV.bool v2)) else (J_roadbooklaw03_BagCrosses_1 a0_0 a0_1 a1_0 a1_1 a2_0 a2_1))))))))))))))))))))) := go (by kernel_rfl) (by kernel_rfl) T5 (by kernel_rfl)
noncomputable def jF6 : Jn PV := (Classical.choose (exT fi6 (fin cfg fi6))).1
noncomputable def lF6 : Ln PV := (Classical.choose (exT fi6 (fin cfg fi6))).2
theorem T6 : Tied cfg W fi6 (fin cfg fi6) jF6 lF6 := Classical.choose_spec (exT fi6 (fin cfg fi6))
theorem e_roadbooklaw03_awake  : wc W n_roadbooklaw03_awake [] =
  (((wc W n_roadbooklaw03_Three [])).bind (fun v1 => (c_g_s0_s0 v1 (fun v2 v3 => (((wc W n_bag_Group [(PV.agg [(PV.slice 0 v2), (PV.slice 0 v3)]), (PV.int .i64 (0 : Int)), (PV.slice 0 [(PV.int .i64 (1 : Int))])])).bind (fun v4 => (((PV.asTup v4)).bind (fun v5 => (((v5)[0]?).bind (fun v6 => (c_g_s0_s0 v6 (fun v7 v8 => (((PV.asTup v4)).bind (fun v9 => (((v9)[1]?).bind (fun v10 => (c_b v10 (fun v11 => (((wc W n_roadbooklaw03_Three [])).bind (fun v12 => (c_g_s0_s0 v12 (fun v13 v14 => (((wc W n_bag_May [(PV.agg [(PV.slice 0 v13), (PV.slice 0 v14)])])).bind (fun v15 => (c_b v15 (fun v16 => (bif v16 then (bif v11 then (((wc W n_roadbookref03_Like [(PV.agg [(PV.slice 0 v7), (PV.slice 0 v8)]), (PV.agg [(PV.slice 0 [(PV.int .i64 (0 : Int)), (PV.int .i64 (16 : Int)), (PV.int .i64 (17 : Int))]), (PV.slice 0 [(PV.slice 3 [(PV.agg [(PV.int .i64 (0 : Int)), (PV.int .i64 (1 : Int))]), (PV.agg [(PV.int .i64 (0 : Int)), (PV.int .i64 (2 : Int))]), (PV.agg [(PV.int .i64 (0 : Int)), (PV.int .i64 (7 : Int))])]), (PV.slice 3 [(PV.agg [(PV.int .i64 (0 : Int)), (PV.int .i64 (3 : Int))]), (PV.agg [(PV.int .i64 (0 : Int)), (PV.int .i64 (1 : Int))]), (PV.agg [(PV.int .i64 (0 : Int)), (PV.int .i64 (4 : Int))])])])])])).bind (fun v17 => (c_b v17 (fun v18 => (bif v18 then (((wc W n_roadbooklaw03_Three [])).bind (fun v19 => (c_g_s0_s0 v19 (fun v20 v21 => (((wc W n_bag_Sorted [(PV.agg [(PV.slice 0 v20), (PV.slice 0 v21)]), (PV.int .i64 (0 : Int))])).bind (fun v22 => (c_b v22 (fun v23 => (bif (!v23) then (((wc W n_roadbooklaw03_Three [])).bind (fun v24 => (c_g_s0_s0 v24 (fun v25 v26 => (((wc W n_bag_Sort [(PV.agg [(PV.slice 0 v25), (PV.slice 0 v26)]), (PV.int .i64 (0 : Int))])).bind (fun v27 => (c_g_s0_s0 v27 (fun v28 v29 => (((wc W n_bag_Sorted [(PV.agg [(PV.slice 0 v28), (PV.slice 0 v29)]), (PV.int .i64 (0 : Int))])).bind (fun v30 => (c_b v30 (fun v31 => (some (PV.bool v31)))))))))))))) else (some (PV.bool false))))))))))) else (some (PV.bool false))))))) else (some (PV.bool false))) else (some (PV.bool false))))))))))))))))))))))))))))) := go (by kernel_rfl) (by kernel_rfl) T6 (by kernel_rfl)
noncomputable def jF7 : Jn PV := (Classical.choose (exT fi7 (fin cfg fi7))).1
noncomputable def lF7 : Ln PV := (Classical.choose (exT fi7 (fin cfg fi7))).2
theorem T7 : Tied cfg W fi7 (fin cfg fi7) jF7 lF7 := Classical.choose_spec (exT fi7 (fin cfg fi7))
noncomputable def J_roadbooklaw03_few_1 (l1 : List PV) (l2 : List PV) : Option PV := jF7 [1, 1] (St.mk [(2, (AV.pv (PV.imm 3 (PV.agg [(PV.slice 0 l1), (PV.slice 0 l2)]) 0)))] [])
noncomputable def L_roadbooklaw03_few_2 (l3 : List PV) (l4 : List PV) (i5 : Int) : Option PV := lF7 [0, 1, 0, 1, 1] 0 (St.mk [(2, (AV.pv (PV.imm 3 (PV.agg [(PV.slice 0 l3), (PV.slice 0 l4)]) 0))), (5, (AV.pv (PV.int .i64 i5)))] [])
theorem J_roadbooklaw03_few_1_eq (l1 : List PV) (l2 : List PV) : J_roadbooklaw03_few_1 l1 l2 =
  (L_roadbooklaw03_few_2 l1 l2 (0 : Int)) := (T7.join [1, 1] _).trans (by kernel_rfl)
theorem L_roadbooklaw03_few_2_eq (l3 : List PV) (l4 : List PV) (i5 : Int) : L_roadbooklaw03_few_2 l3 l4 i5 =
  (bif (decide (i5 < (((List.length l4) : Nat) : Int))) then (bif (decide ((0 : Int) ≤ i5)) then (((l4)[(Int.toNat i5)]?).bind (fun v6 => (c_s3 v6 (fun v7 => (bif (decide (GT.gt (((List.length v7) : Nat) : Int) (20 : Int))) then (some (PV.bool false)) else (L_roadbooklaw03_few_2 l3 l4 (IntKind.wrap .i64 (i5 + (1 : Int) : Int)))))))) else none) else (some (PV.bool true))) := (T7.loop [1, 1, 0, 1, 0] 0 _ rfl).trans (by kernel_rfl)
theorem e_roadbooklaw03_few (a0_0 : List PV) (a0_1 : List PV) (a1 : Int) : wc W n_roadbooklaw03_few [(PV.agg [(PV.slice 0 a0_0), (PV.slice 0 a0_1)]), (PV.int .i64 a1)] =
  (bif (decide (GT.gt (((List.length a0_1) : Nat) : Int) a1)) then (some (PV.bool false)) else (bif (decide (GT.gt (((List.length a0_0) : Nat) : Int) (20 : Int))) then (some (PV.bool false)) else (J_roadbooklaw03_few_1 a0_0 a0_1))) := go (by kernel_rfl) (by kernel_rfl) T7 (by kernel_rfl)
noncomputable def jF8 : Jn PV := (Classical.choose (exT fi8 (fin cfg fi8))).1
noncomputable def lF8 : Ln PV := (Classical.choose (exT fi8 (fin cfg fi8))).2
theorem T8 : Tied cfg W fi8 (fin cfg fi8) jF8 lF8 := Classical.choose_spec (exT fi8 (fin cfg fi8))
theorem e_bag_Sort (a0_0 : List PV) (a0_1 : List PV) (a1 : Int) : wc W n_bag_Sort [(PV.agg [(PV.slice 0 a0_0), (PV.slice 0 a0_1)]), (PV.int .i64 a1)] =
  (((W n_bag_some true [(AV.pv (PV.agg [(PV.slice 0 a0_0), (PV.slice 0 a0_1)])), (AV.pv (PV.fn n_bag_Sort_1 [] []))] [])).bind (fun v3 => (k_8de13e v3 (fun v4 v5 => (((wc W n_slices_Index_int_int [(PV.slice 0 a0_0), (PV.int .i64 a1)])).bind (fun v6 => (c_i64 v6 (fun v7 => (((W n_slices_SortStableFunc_api_Val_api_Val false [(AV.fx 0 0), (AV.fnv n_bag_Sort_2 [] [(AV.own 1 0)])] [(Ob.fix 0 0 v5), (Ob.var false 0 (AV.pv (PV.int .i64 v7)))])).bind (fun v10 => (k_c4d914 v10 (fun v11 v12 v13 => (some (PV.agg [(PV.slice 0 v4), (PV.slice 0 v12)])))))))))))))) := go (by kernel_rfl) (by kernel_rfl) T8 (by kernel_rfl)
noncomputable def jF9 : Jn PV := (Classical.choose (exT fi9 (fin cfg fi9))).1
noncomputable def lF9 : Ln PV := (Classical.choose (exT fi9 (fin cfg fi9))).2
theorem T9 : Tied cfg W fi9 (fin cfg fi9) jF9 lF9 := Classical.choose_spec (exT fi9 (fin cfg fi9))
theorem e_bag_Sorted (a0_0 : List PV) (a0_1 : List PV) (a1 : Int) : wc W n_bag_Sorted [(PV.agg [(PV.slice 0 a0_0), (PV.slice 0 a0_1)]), (PV.int .i64 a1)] =
  (((wc W n_slices_Index_int_int [(PV.slice 0 a0_0), (PV.int .i64 a1)])).bind (fun v1 => (c_i64 v1 (fun v2 => (((W n_slices_IsSortedFunc_api_Val_api_Val false [(AV.pv (PV.slice 0 a0_1)), (AV.fnv n_bag_Sorted_1 [] [(AV.own 0 0)])] [(Ob.var false 0 (AV.pv (PV.int .i64 v2)))])).bind (fun v5 => (k_5b106d v5 (fun v6 v7 => (c_b v6 (fun v8 => (some (PV.bool v8)))))))))))) := go (by kernel_rfl) (by kernel_rfl) T9 (by kernel_rfl)
noncomputable def jF10 : Jn PV := (Classical.choose (exT fi10 (fin cfg fi10))).1
noncomputable def lF10 : Ln PV := (Classical.choose (exT fi10 (fin cfg fi10))).2
theorem T10 : Tied cfg W fi10 (fin cfg fi10) jF10 lF10 := Classical.choose_spec (exT fi10 (fin cfg fi10))
noncomputable def J_bag_Same_1 (l3 : List PV) (l4 : List PV) (l5 : List PV) (l6 : List PV) : Option PV := jF10 [1, 1] (St.mk [(2, (AV.pv (PV.imm 3 (PV.agg [(PV.slice 0 l3), (PV.slice 0 l4)]) 0))), (3, (AV.pv (PV.imm 3 (PV.agg [(PV.slice 0 l5), (PV.slice 0 l6)]) 0)))] [])
noncomputable def L_bag_Same_2 (l7 : List PV) (l8 : List PV) (l9 : List PV) (l10 : List PV) (i11 : Int) (i12 : Int) (m13 : List (PV × PV)) : Option PV := lF10 [0, 1, 1, 1, 1] 1 (St.mk [(2, (AV.pv (PV.imm 3 (PV.agg [(PV.slice 0 l7), (PV.slice 0 l8)]) 0))), (3, (AV.pv (PV.imm 3 (PV.agg [(PV.slice 0 l9), (PV.slice 0 l10)]) 0))), (5, (AV.mp 0)), (27, (AV.pv (PV.int .i64 i11))), (28, (AV.pv (PV.int .i64 i12)))] [(Ob.map false m13)])
theorem J_bag_Same_1_eq (l3 : List PV) (l4 : List PV) (l5 : List PV) (l6 : List PV) : J_bag_Same_1 l3 l4 l5 l6 =
  (L_bag_Same_2 l3 l4 l5 l6 (((List.length l4) : Nat) : Int) (0 : Int) []) := (T10.join [1, 1] _).trans (by kernel_rfl)
theorem L_bag_Same_2_eq (l7 : List PV) (l8 : List PV) (l9 : List PV) (l10 : List PV) (i11 : Int) (i12 : Int) (m13 : List (PV × PV)) : L_bag_Same_2 l7 l8 l9 l10 i11 i12 m13 =
  (bif (decide (i12 < i11)) then (bif (decide ((0 : Int) ≤ i12)) then (((l8)[(Int.toNat i12)]?).bind (fun v14 => (c_s3 v14 (fun v15 => (((wc W n_bag_text [(PV.slice 3 v15)])).bind (fun v16 => (c_t v16 (fun v17 => (((mfind (eqP Cf.cfg (6 : Nat) (9 : TypeId)) (PV.str v17) m13)).bind (fun v18 => (((intP BinOp.add (Option.getD v18 (PV.int .i64 (0 : Int))) (PV.int .i64 (1 : Int)))).bind (fun v19 => (c_i64 v19 (fun v20 => (((mput (eqP Cf.cfg (6 : Nat) (9 : TypeId)) (PV.str v17) (PV.int .i64 v20) m13)).bind (fun v21 => (bif (decide ((0 : Int) ≤ i12)) then (((l10)[(Int.toNat i12)]?).bind (fun v22 => (c_s3 v22 (fun v23 => (((wc W n_bag_text [(PV.slice 3 v23)])).bind (fun v24 => (c_t v24 (fun v25 => (((mfind (eqP Cf.cfg (6 : Nat) (9 : TypeId)) (PV.str v25) v21)).bind (fun v26 => (((intP BinOp.sub (Option.getD v26 (PV.int .i64 (0 : Int))) (PV.int .i64 (1 : Int)))).bind (fun v27 => (c_i64 v27 (fun v28 => (((mput (eqP Cf.cfg (6 : Nat) (9 : TypeId)) (PV.str v25) (PV.int .i64 v28) v21)).bind (fun v29 => (L_bag_Same_2 l7 l8 l9 l10 i11 (IntKind.wrap .i64 (i12 + (1 : Int) : Int)) v29))))))))))))))))) else none))))))))))))))))) else none) else (((zeros m13)).bind (fun v30 => (some (PV.bool v30))))) := (T10.loop [1, 1, 1, 1, 0] 1 _ rfl).trans (by kernel_rfl)
theorem e_bag_Same (a0_0 : List PV) (a0_1 : List PV) (a1_0 : List PV) (a1_1 : List PV) : wc W n_bag_Same [(PV.agg [(PV.slice 0 a0_0), (PV.slice 0 a0_1)]), (PV.agg [(PV.slice 0 a1_0), (PV.slice 0 a1_1)])] =
  (((wc W n_slices_Equal_int_int [(PV.slice 0 a0_0), (PV.slice 0 a1_0)])).bind (fun v1 => (c_b v1 (fun v2 => (bif (!v2) then (some (PV.bool false)) else (bif ((((List.length a0_1) : Nat) : Int) != (((List.length a1_1) : Nat) : Int)) then (some (PV.bool false)) else (J_bag_Same_1 a0_0 a0_1 a1_0 a1_1))))))) := go (by kernel_rfl) (by kernel_rfl) T10 (by kernel_rfl)
noncomputable def jF11 : Jn PV := (Classical.choose (exT fi11 (fin cfg fi11))).1
noncomputable def lF11 : Ln PV := (Classical.choose (exT fi11 (fin cfg fi11))).2
theorem T11 : Tied cfg W fi11 (fin cfg fi11) jF11 lF11 := Classical.choose_spec (exT fi11 (fin cfg fi11))
noncomputable def J_roadbookref03_Like_1 (l3 : List PV) (l4 : List PV) (l5 : List PV) (l6 : List PV) : Option PV := jF11 [1, 1, 1] (St.mk [(2, (AV.pv (PV.imm 3 (PV.agg [(PV.slice 0 l3), (PV.slice 0 l4)]) 0))), (3, (AV.pv (PV.imm 3 (PV.agg [(PV.slice 0 l5), (PV.slice 0 l6)]) 0)))] [])
noncomputable def L_roadbookref03_Like_2 (l7 : List PV) (l8 : List PV) (l9 : List PV) (l10 : List PV) (i11 : Int) : Option PV := lF11 [0, 1, 0, 1, 1, 1] 0 (St.mk [(2, (AV.pv (PV.imm 3 (PV.agg [(PV.slice 0 l7), (PV.slice 0 l8)]) 0))), (3, (AV.pv (PV.imm 3 (PV.agg [(PV.slice 0 l9), (PV.slice 0 l10)]) 0))), (6, (AV.pv (PV.int .i64 i11)))] [])
theorem J_roadbookref03_Like_1_eq (l3 : List PV) (l4 : List PV) (l5 : List PV) (l6 : List PV) : J_roadbookref03_Like_1 l3 l4 l5 l6 =
  (L_roadbookref03_Like_2 l3 l4 l5 l6 (0 : Int)) := (T11.join [1, 1, 1] _).trans (by kernel_rfl)
theorem L_roadbookref03_Like_2_eq (l7 : List PV) (l8 : List PV) (l9 : List PV) (l10 : List PV) (i11 : Int) : L_roadbookref03_Like_2 l7 l8 l9 l10 i11 =
  (bif (decide (i11 < (((List.length l8) : Nat) : Int))) then (bif (decide ((0 : Int) ≤ i11)) then (((l8)[(Int.toNat i11)]?).bind (fun v12 => (c_s3 v12 (fun v13 => (bif (decide ((0 : Int) ≤ i11)) then (((l10)[(Int.toNat i11)]?).bind (fun v14 => (c_s3 v14 (fun v15 => (((wc W n_roadbookref03_Row [(PV.slice 3 v13), (PV.slice 3 v15)])).bind (fun v16 => (c_b v16 (fun v17 => (bif (!v17) then (some (PV.bool false)) else (L_roadbookref03_Like_2 l7 l8 l9 l10 (IntKind.wrap .i64 (i11 + (1 : Int) : Int)))))))))))) else none))))) else none) else (some (PV.bool true))) := (T11.loop [1, 1, 1, 0, 1, 0] 0 _ rfl).trans (by kernel_rfl)
theorem e_roadbookref03_Like (a0_0 : List PV) (a0_1 : List PV) (a1_0 : List PV) (a1_1 : List PV) : wc W n_roadbookref03_Like [(PV.agg [(PV.slice 0 a0_0), (PV.slice 0 a0_1)]), (PV.agg [(PV.slice 0 a1_0), (PV.slice 0 a1_1)])] =
  (((wc W n_roadbookref02_Ints [(PV.slice 0 a0_0), (PV.slice 0 a1_0)])).bind (fun v1 => (c_b v1 (fun v2 => (bif (!v2) then (some (PV.bool false)) else (bif ((((List.length a0_1) : Nat) : Int) != (((List.length a1_1) : Nat) : Int)) then (some (PV.bool false)) else (J_roadbookref03_Like_1 a0_0 a0_1 a1_0 a1_1))))))) := go (by kernel_rfl) (by kernel_rfl) T11 (by kernel_rfl)
noncomputable def jF12 : Jn PV := (Classical.choose (exT fi12 (fin cfg fi12))).1
noncomputable def lF12 : Ln PV := (Classical.choose (exT fi12 (fin cfg fi12))).2
theorem T12 : Tied cfg W fi12 (fin cfg fi12) jF12 lF12 := Classical.choose_spec (exT fi12 (fin cfg fi12))
noncomputable def J_bag_Cross_1 (l9 : List PV) (l10 : List PV) (l11 : List PV) (l12 : List PV) (l13 : List PV) (l14 : List PV) (l15 : List PV) (l16 : List PV) : Option PV := jF12 [1, 1, 1] (St.mk [(2, (AV.pv (PV.imm 3 (PV.agg [(PV.slice 0 l9), (PV.slice 0 l10)]) 0))), (3, (AV.pv (PV.imm 3 (PV.agg [(PV.slice 0 l11), (PV.slice 0 l12)]) 0))), (4, (AV.own 0 0)), (6, (AV.own 3 0))] [(Ob.var false 3 (AV.agg [(AV.nil 0), (AV.nil 0)])), (Ob.row false 0 0 l13), (Ob.row false 0 0 l14), (Ob.var false 3 (AV.agg [(AV.pv (PV.slice 0 l15)), (AV.view 4 0 none)])), (Ob.row true 0 0 l16)])
noncomputable def L_bag_Cross_2 (l17 : List PV) (l18 : List PV) (l19 : List PV) (i20 : Int) (i21 : Int) (l22 : List PV) (l23 : List PV) (l24 : List PV) (l25 : List PV) : Option PV := lF12 [0, 1, 0, 1, 1, 1] 5 (St.mk [(3, (AV.pv (PV.imm 3 (PV.agg [(PV.slice 0 l17), (PV.slice 0 l18)]) 0))), (4, (AV.own 0 0)), (6, (AV.own 3 0)), (45, (AV.pv (PV.slice 0 l19))), (46, (AV.pv (PV.int .i64 i20))), (47, (AV.pv (PV.int .i64 i21)))] [(Ob.var false 3 (AV.agg [(AV.nil 0), (AV.nil 0)])), (Ob.row false 0 0 l22), (Ob.row false 0 0 l23), (Ob.var false 3 (AV.agg [(AV.pv (PV.slice 0 l24)), (AV.view 4 0 none)])), (Ob.row true 0 0 l25)])
noncomputable def L_bag_Cross_3 (l28 : List PV) (l29 : List PV) (l30 : List PV) (l31 : List PV) (i32 : Int) (i33 : Int) (l34 : List PV) (i35 : Int) (i36 : Int) (l37 : List PV) (l38 : List PV) (l39 : List PV) (l40 : List PV) : Option PV := lF12 [0, 1, 1, 0, 0, 1, 1, 5, 0, 1, 0, 1, 1, 1] 5 (St.mk [(3, (AV.pv (PV.imm 3 (PV.agg [(PV.slice 0 l28), (PV.slice 0 l29)]) 0))), (4, (AV.own 0 0)), (6, (AV.own 3 0)), (8, (AV.pv (PV.slice 3 l30))), (45, (AV.pv (PV.slice 0 l31))), (46, (AV.pv (PV.int .i64 i32))), (47, (AV.pv (PV.int .i64 i33))), (52, (AV.pv (PV.slice 0 l34))), (53, (AV.pv (PV.int .i64 i35))), (54, (AV.pv (PV.int .i64 i36)))] [(Ob.var false 3 (AV.agg [(AV.nil 0), (AV.nil 0)])), (Ob.row false 0 0 l37), (Ob.row false 0 0 l38), (Ob.var false 3 (AV.agg [(AV.pv (PV.slice 0 l39)), (AV.view 4 0 none)])), (Ob.row true 0 0 l40)])
theorem J_bag_Cross_1_eq (l9 : List PV) (l10 : List PV) (l11 : List PV) (l12 : List PV) (l13 : List PV) (l14 : List PV) (l15 : List PV) (l16 : List PV) : J_bag_Cross_1 l9 l10 l11 l12 l13 l14 l15 l16 =
  (L_bag_Cross_2 l11 l12 l10 (((List.length l10) : Nat) : Int) (0 : Int) l13 l14 l15 l16) := (T12.join [1, 1, 1] _).trans (by kernel_rfl)
theorem L_bag_Cross_2_eq (l17 : List PV) (l18 : List PV) (l19 : List PV) (i20 : Int) (i21 : Int) (l22 : List PV) (l23 : List PV) (l24 : List PV) (l25 : List PV) : L_bag_Cross_2 l17 l18 l19 i20 i21 l22 l23 l24 l25 =
  (bif (decide (i21 < i20)) then (bif (decide ((0 : Int) ≤ i21)) then (((l19)[(Int.toNat i21)]?).bind (fun v26 => (c_s3 v26 (fun v27 => (L_bag_Cross_3 l17 l18 v27 l19 i20 i21 l18 (((List.length l18) : Nat) : Int) (0 : Int) l22 l23 l24 l25))))) else none) else (some (PV.tup [(PV.agg [(PV.slice 0 l24), (PV.slice 0 l25)]), (PV.bool true)]))) := (T12.loop [1, 1, 1, 0, 1, 0] 5 _ rfl).trans (by kernel_rfl)
theorem L_bag_Cross_3_eq (l28 : List PV) (l29 : List PV) (l30 : List PV) (l31 : List PV) (i32 : Int) (i33 : Int) (l34 : List PV) (i35 : Int) (i36 : Int) (l37 : List PV) (l38 : List PV) (l39 : List PV) (l40 : List PV) : L_bag_Cross_3 l28 l29 l30 l31 i32 i33 l34 i35 i36 l37 l38 l39 l40 =
  (bif (decide (i36 < i35)) then (bif (decide ((0 : Int) ≤ i36)) then (((l34)[(Int.toNat i36)]?).bind (fun v41 => (c_s3 v41 (fun v42 => (((wc W n_slices_Concat_api_Val_api_Val [(PV.slice 0 [(PV.slice 3 l30), (PV.slice 3 v42)])])).bind (fun v43 => (c_s3 v43 (fun v44 => (bif (true && (decide (((List.length l40) + 1 : Nat) ≤ 4294967296))) then (L_bag_Cross_3 l28 l29 l30 l31 i32 i33 l34 i35 (IntKind.wrap .i64 (i36 + (1 : Int) : Int)) l37 l38 l39 (l40 ++ [(PV.slice 3 v44)])) else none))))))))) else none) else (L_bag_Cross_2 l28 l29 l31 i32 (IntKind.wrap .i64 (i33 + (1 : Int) : Int)) l37 l38 l39 l40)) := (T12.loop [1, 1, 1, 0, 1, 0, 5, 1, 1, 0, 0, 1, 1, 0] 5 _ rfl).trans (by kernel_rfl)
theorem e_bag_Cross (a0_0 : List PV) (a0_1 : List PV) (a1_0 : List PV) (a1_1 : List PV) : wc W n_bag_Cross [(PV.agg [(PV.slice 0 a0_0), (PV.slice 0 a0_1)]), (PV.agg [(PV.slice 0 a1_0), (PV.slice 0 a1_1)])] =
  (((wc W n_slices_Concat_int_int [(PV.slice 0 [(PV.slice 0 a0_0), (PV.slice 0 a1_0)])])).bind (fun v1 => (c_s0 v1 (fun v2 => (((wc W n_bag_May [(PV.agg [(PV.slice 0 a0_0), (PV.slice 0 a0_1)])])).bind (fun v3 => (c_b v3 (fun v4 => (bif (!v4) then (some (PV.tup [(PV.agg [(PV.slice 0 []), (PV.slice 0 [])]), (PV.bool false)])) else (((wc W n_bag_May [(PV.agg [(PV.slice 0 a1_0), (PV.slice 0 a1_1)])])).bind (fun v5 => (c_b v5 (fun v6 => (bif (!v6) then (some (PV.tup [(PV.agg [(PV.slice 0 []), (PV.slice 0 [])]), (PV.bool false)])) else (((wc W n_bag_May [(PV.agg [(PV.slice 0 v2), (PV.slice 0 [])])])).bind (fun v7 => (c_b v7 (fun v8 => (bif (!v8) then (some (PV.tup [(PV.agg [(PV.slice 0 []), (PV.slice 0 [])]), (PV.bool false)])) else (bif (decide (GT.gt (IntKind.wrap .i64 ((((List.length a0_1) : Nat) : Int) * (((List.length a1_1) : Nat) : Int) : Int)) (5000 : Int))) then (some (PV.tup [(PV.agg [(PV.slice 0 []), (PV.slice 0 [])]), (PV.bool false)])) else (J_bag_Cross_1 a0_0 a0_1 a1_0 a1_1 [] [] v2 []))))))))))))))))))))) := go (by kernel_rfl) (by kernel_rfl) T12 (by kernel_rfl)
noncomputable def jF13 : Jn PV := (Classical.choose (exT fi13 (fin cfg fi13))).1
noncomputable def lF13 : Ln PV := (Classical.choose (exT fi13 (fin cfg fi13))).2
theorem T13 : Tied cfg W fi13 (fin cfg fi13) jF13 lF13 := Classical.choose_spec (exT fi13 (fin cfg fi13))
noncomputable def J_bag_Pick_1 (l5 : List PV) (l6 : List PV) (l7 : List PV) : Option PV := jF13 [1, 1] (St.mk [(1, (AV.pv (PV.slice 0 l5))), (2, (AV.pv (PV.imm 3 (PV.agg [(PV.slice 0 l6), (PV.slice 0 l7)]) 0))), (4, (AV.own 0 0))] [(Ob.var false 3 (AV.agg [(AV.nil 0), (AV.nil 0)]))])
noncomputable def L_bag_Pick_2 (l8 : List PV) (l9 : List PV) (l10 : List PV) (l11 : List PV) (i12 : Int) (i13 : Int) (l14 : List PV) : Option PV := lF13 [0, 1, 0, 1, 1, 1] 2 (St.mk [(1, (AV.pv (PV.slice 0 l8))), (2, (AV.pv (PV.imm 3 (PV.agg [(PV.slice 0 l9), (PV.slice 0 l10)]) 0))), (4, (AV.own 0 0)), (6, (AV.view 1 0 none)), (26, (AV.pv (PV.slice 0 l11))), (27, (AV.pv (PV.int .i64 i12))), (28, (AV.pv (PV.int .i64 i13)))] [(Ob.var false 3 (AV.agg [(AV.nil 0), (AV.nil 0)])), (Ob.row false 0 0 l14)])
noncomputable def L_bag_Pick_3 (l21 : List PV) (i22 : Int) (i23 : Int) (l24 : List PV) (l25 : List PV) (l26 : List PV) (l27 : List PV) (l28 : List PV) : Option PV := lF13 [0, 1, 0, 1, 1, 1, 1, 1] 6 (St.mk [(4, (AV.own 0 0)), (6, (AV.view 1 0 none)), (10, (AV.own 4 0)), (48, (AV.pv (PV.slice 0 l21))), (49, (AV.pv (PV.int .i64 i22))), (50, (AV.pv (PV.int .i64 i23)))] [(Ob.var false 3 (AV.agg [(AV.nil 0), (AV.nil 0)])), (Ob.row false 0 0 l24), (Ob.row false 0 0 l25), (Ob.row false 0 0 l26), (Ob.var false 3 (AV.agg [(AV.pv (PV.slice 0 l27)), (AV.view 5 0 none)])), (Ob.row false 0 0 l28)])
noncomputable def L_bag_Pick_4 (l31 : List PV) (l32 : List PV) (i33 : Int) (i34 : Int) (i35 : Int) (i36 : Int) (l37 : List PV) (l38 : List PV) (l39 : List PV) (l40 : List PV) (l41 : List PV) (l42 : List PV) : Option PV := lF13 [0, 1, 0, 1, 1, 0, 0, 1, 1, 6, 0, 1, 0, 1, 1, 1, 1, 1] 7 (St.mk [(4, (AV.own 0 0)), (6, (AV.view 1 0 none)), (10, (AV.own 4 0)), (12, (AV.pv (PV.slice 3 l31))), (13, (AV.view 6 0 none)), (48, (AV.pv (PV.slice 0 l32))), (49, (AV.pv (PV.int .i64 i33))), (50, (AV.pv (PV.int .i64 i34))), (54, (AV.view 1 0 none)), (55, (AV.pv (PV.int .i64 i35))), (56, (AV.pv (PV.int .i64 i36)))] [(Ob.var false 3 (AV.agg [(AV.nil 0), (AV.nil 0)])), (Ob.row false 0 0 l37), (Ob.row false 0 0 l38), (Ob.row false 0 0 l39), (Ob.var false 3 (AV.agg [(AV.pv (PV.slice 0 l40)), (AV.view 5 0 none)])), (Ob.row false 0 0 l41), (Ob.row false 0 3 l42)])
theorem J_bag_Pick_1_eq (l5 : List PV) (l6 : List PV) (l7 : List PV) : J_bag_Pick_1 l5 l6 l7 =
  (L_bag_Pick_2 l5 l6 l7 l5 (((List.length l5) : Nat) : Int) (0 : Int) []) := (T13.join [1, 1] _).trans (by kernel_rfl)
theorem L_bag_Pick_2_eq (l8 : List PV) (l9 : List PV) (l10 : List PV) (l11 : List PV) (i12 : Int) (i13 : Int) (l14 : List PV) : L_bag_Pick_2 l8 l9 l10 l11 i12 i13 l14 =
  (bif (decide (i13 < i12)) then (bif (decide ((0 : Int) ≤ i13)) then (((l11)[(Int.toNat i13)]?).bind (fun v15 => (c_i64 v15 (fun v16 => (((wc W n_slices_Index_int_int [(PV.slice 0 l9), (PV.int .i64 v16)])).bind (fun v17 => (c_i64 v17 (fun v18 => (bif (decide (v18 < (0 : Int))) then (some (PV.tup [(PV.agg [(PV.slice 0 []), (PV.slice 0 [])]), (PV.bool false)])) else (bif (true && (decide (((List.length l14) + 1 : Nat) ≤ 4294967296))) then (L_bag_Pick_2 l8 l9 l10 l11 i12 (IntKind.wrap .i64 (i13 + (1 : Int) : Int)) (l14 ++ [(PV.int .i64 v18)])) else none)))))))))) else none) else (((wc W n_slices_Clone_int_int [(PV.slice 0 l8)])).bind (fun v19 => (c_s0 v19 (fun v20 => (L_bag_Pick_3 l10 (((List.length l10) : Nat) : Int) (0 : Int) l14 [] [] v20 [])))))) := (T13.loop [1, 1, 1, 0, 1, 0] 2 _ rfl).trans (by kernel_rfl)
theorem L_bag_Pick_3_eq (l21 : List PV) (i22 : Int) (i23 : Int) (l24 : List PV) (l25 : List PV) (l26 : List PV) (l27 : List PV) (l28 : List PV) : L_bag_Pick_3 l21 i22 i23 l24 l25 l26 l27 l28 =
  (bif (decide (i23 < i22)) then (bif (decide ((0 : Int) ≤ i23)) then (((l21)[(Int.toNat i23)]?).bind (fun v29 => (c_s3 v29 (fun v30 => (L_bag_Pick_4 v30 l21 i22 i23 (((List.length l24) : Nat) : Int) (0 : Int) l24 l25 l26 l27 l28 []))))) else none) else (some (PV.tup [(PV.agg [(PV.slice 0 l27), (PV.slice 0 l28)]), (PV.bool true)]))) := (T13.loop [1, 1, 1, 1, 1, 0, 1, 0] 6 _ rfl).trans (by kernel_rfl)
theorem L_bag_Pick_4_eq (l31 : List PV) (l32 : List PV) (i33 : Int) (i34 : Int) (i35 : Int) (i36 : Int) (l37 : List PV) (l38 : List PV) (l39 : List PV) (l40 : List PV) (l41 : List PV) (l42 : List PV) : L_bag_Pick_4 l31 l32 i33 i34 i35 i36 l37 l38 l39 l40 l41 l42 =
  (bif (decide (i36 < i35)) then (bif ((true && (decide ((0 : Int) ≤ i36))) && (decide (i36 < (((List.length l37) : Nat) : Int)))) then (((l37)[(0 + (Int.toNat i36) : Nat)]?).bind (fun v43 => (c_i64 v43 (fun v44 => (bif (decide ((0 : Int) ≤ v44)) then (((l31)[(Int.toNat v44)]?).bind (fun v45 => (c_g_i64_i64 v45 (fun v46 v47 => (bif (true && (decide (((List.length l42) + 1 : Nat) ≤ 4294967296))) then (L_bag_Pick_4 l31 l32 i33 i34 i35 (IntKind.wrap .i64 (i36 + (1 : Int) : Int)) l37 l38 l39 l40 l41 (l42 ++ [(PV.agg [(PV.int .i64 v46), (PV.int .i64 v47)])])) else none))))) else none))))) else none) else (bif (true && (decide (((List.length l41) + 1 : Nat) ≤ 4294967296))) then (L_bag_Pick_3 l32 i33 (IntKind.wrap .i64 (i34 + (1 : Int) : Int)) l37 l38 l39 l40 (l41 ++ [(PV.slice 3 l42)])) else none)) := (T13.loop [1, 1, 1, 1, 1, 0, 1, 0, 6, 1, 1, 0, 0, 1, 1, 0, 1, 0] 7 _ rfl).trans (by kernel_rfl)
theorem e_bag_Pick (a0_0 : List PV) (a0_1 : List PV) (a1 : List PV) : wc W n_bag_Pick [(PV.agg [(PV.slice 0 a0_0), (PV.slice 0 a0_1)]), (PV.slice 0 a1)] =
  (((wc W n_bag_May [(PV.agg [(PV.slice 0 a0_0), (PV.slice 0 a0_1)])])).bind (fun v1 => (c_b v1 (fun v2 => (bif (!v2) then (some (PV.tup [(PV.agg [(PV.slice 0 []), (PV.slice 0 [])]), (PV.bool false)])) else (((wc W n_bag_May [(PV.agg [(PV.slice 0 a1), (PV.slice 0 [])])])).bind (fun v3 => (c_b v3 (fun v4 => (bif (!v4) then (some (PV.tup [(PV.agg [(PV.slice 0 []), (PV.slice 0 [])]), (PV.bool false)])) else (J_bag_Pick_1 a1 a0_0 a0_1))))))))))) := go (by kernel_rfl) (by kernel_rfl) T13 (by kernel_rfl)
noncomputable def jF16 : Jn PV := (Classical.choose (exT fi16 (fin cfg fi16))).1
noncomputable def lF16 : Ln PV := (Classical.choose (exT fi16 (fin cfg fi16))).2
theorem T16 : Tied cfg W fi16 (fin cfg fi16) jF16 lF16 := Classical.choose_spec (exT fi16 (fin cfg fi16))
noncomputable def L_bag_May_1 (l1 : List PV) (l2 : List PV) (l3 : List PV) (i4 : Int) (i5 : Int) (b6 : Bool) (b7 : Bool) (b8 : Bool) (b9 : Bool) (b10 : Bool) (b11 : Bool) (b12 : Bool) (b13 : Bool) (b14 : Bool) (b15 : Bool) (b16 : Bool) (b17 : Bool) (b18 : Bool) (b19 : Bool) (b20 : Bool) (b21 : Bool) : Option PV := lF16 [0, 1, 0, 1, 1] 1 (St.mk [(1, (AV.pv (PV.imm 3 (PV.agg [(PV.slice 0 l1), (PV.slice 0 l2)]) 0))), (3, (AV.own 0 0)), (10, (AV.pv (PV.slice 0 l3))), (11, (AV.pv (PV.int .i64 i4))), (12, (AV.pv (PV.int .i64 i5)))] [(Ob.var false 17 (AV.pv (PV.agg [(PV.bool b6), (PV.bool b7), (PV.bool b8), (PV.bool b9), (PV.bool b10), (PV.bool b11), (PV.bool b12), (PV.bool b13), (PV.bool b14), (PV.bool b15), (PV.bool b16), (PV.bool b17), (PV.bool b18), (PV.bool b19), (PV.bool b20), (PV.bool b21)])))])
noncomputable def L_bag_May_2 (l26 : List PV) (l27 : List PV) (l28 : List PV) (i29 : Int) (i30 : Int) (b31 : Bool) (b32 : Bool) (b33 : Bool) (b34 : Bool) (b35 : Bool) (b36 : Bool) (b37 : Bool) (b38 : Bool) (b39 : Bool) (b40 : Bool) (b41 : Bool) (b42 : Bool) (b43 : Bool) (b44 : Bool) (b45 : Bool) (b46 : Bool) : Option PV := lF16 [0, 1, 0, 1, 1, 1, 1] 1 (St.mk [(1, (AV.pv (PV.imm 3 (PV.agg [(PV.slice 0 l26), (PV.slice 0 l27)]) 0))), (6, (AV.pv (PV.fn n_bag_May_1 [] []))), (31, (AV.pv (PV.slice 0 l28))), (32, (AV.pv (PV.int .i64 i29))), (33, (AV.pv (PV.int .i64 i30)))] [(Ob.var false 17 (AV.pv (PV.agg [(PV.bool b31), (PV.bool b32), (PV.bool b33), (PV.bool b34), (PV.bool b35), (PV.bool b36), (PV.bool b37), (PV.bool b38), (PV.bool b39), (PV.bool b40), (PV.bool b41), (PV.bool b42), (PV.bool b43), (PV.bool b44), (PV.bool b45), (PV.bool b46)])))])
theorem L_bag_May_1_eq (l1 : List PV) (l2 : List PV) (l3 : List PV) (i4 : Int) (i5 : Int) (b6 : Bool) (b7 : Bool) (b8 : Bool) (b9 : Bool) (b10 : Bool) (b11 : Bool) (b12 : Bool) (b13 : Bool) (b14 : Bool) (b15 : Bool) (b16 : Bool) (b17 : Bool) (b18 : Bool) (b19 : Bool) (b20 : Bool) (b21 : Bool) : L_bag_May_1 l1 l2 l3 i4 i5 b6 b7 b8 b9 b10 b11 b12 b13 b14 b15 b16 b17 b18 b19 b20 b21 =
  (bif (decide (i5 < i4)) then (bif (decide ((0 : Int) ≤ i5)) then (((l3)[(Int.toNat i5)]?).bind (fun v22 => (c_i64 v22 (fun v23 => (bif (decide (v23 < (0 : Int))) then (some (PV.bool false)) else (bif (decide (GT.gt v23 (15 : Int))) then (some (PV.bool false)) else (bif ((decide ((0 : Int) ≤ v23)) && (decide (v23 < (16 : Int)))) then (((PV.load 17 (PV.agg [(PV.bool b6), (PV.bool b7), (PV.bool b8), (PV.bool b9), (PV.bool b10), (PV.bool b11), (PV.bool b12), (PV.bool b13), (PV.bool b14), (PV.bool b15), (PV.bool b16), (PV.bool b17), (PV.bool b18), (PV.bool b19), (PV.bool b20), (PV.bool b21)]) (0 + ((Int.toNat v23) * 1 : Nat) : Nat) 0)).bind (fun v24 => (c_b v24 (fun v25 => (bif v25 then (some (PV.bool false)) else (bif ((decide ((0 : Int) ≤ v23)) && (decide (v23 < (16 : Int)))) then (bif ((decide (((0 + ((Int.toNat v23) * 1 : Nat) : Nat) + 1 : Nat) ≤ 16)) && true) then (L_bag_May_1 l1 l2 l3 i4 (IntKind.wrap .i64 (i5 + (1 : Int) : Int)) (bif (0 == (0 + ((Int.toNat v23) * 1 : Nat) : Nat)) then true else b6) (bif (1 == (0 + ((Int.toNat v23) * 1 : Nat) : Nat)) then true else b7) (bif (2 == (0 + ((Int.toNat v23) * 1 : Nat) : Nat)) then true else b8) (bif (3 == (0 + ((Int.toNat v23) * 1 : Nat) : Nat)) then true else b9) (bif (4 == (0 + ((Int.toNat v23) * 1 : Nat) : Nat)) then true else b10) (bif (5 == (0 + ((Int.toNat v23) * 1 : Nat) : Nat)) then true else b11) (bif (6 == (0 + ((Int.toNat v23) * 1 : Nat) : Nat)) then true else b12) (bif (7 == (0 + ((Int.toNat v23) * 1 : Nat) : Nat)) then true else b13) (bif (8 == (0 + ((Int.toNat v23) * 1 : Nat) : Nat)) then true else b14) (bif (9 == (0 + ((Int.toNat v23) * 1 : Nat) : Nat)) then true else b15) (bif (10 == (0 + ((Int.toNat v23) * 1 : Nat) : Nat)) then true else b16) (bif (11 == (0 + ((Int.toNat v23) * 1 : Nat) : Nat)) then true else b17) (bif (12 == (0 + ((Int.toNat v23) * 1 : Nat) : Nat)) then true else b18) (bif (13 == (0 + ((Int.toNat v23) * 1 : Nat) : Nat)) then true else b19) (bif (14 == (0 + ((Int.toNat v23) * 1 : Nat) : Nat)) then true else b20) (bif (15 == (0 + ((Int.toNat v23) * 1 : Nat) : Nat)) then true else b21)) else none) else none)))))) else none))))))) else none) else (L_bag_May_2 l1 l2 l2 (((List.length l2) : Nat) : Int) (0 : Int) b6 b7 b8 b9 b10 b11 b12 b13 b14 b15 b16 b17 b18 b19 b20 b21)) := (T16.loop [1, 1, 0, 1, 0] 1 _ rfl).trans (by kernel_rfl)
theorem L_bag_May_2_eq (l26 : List PV) (l27 : List PV) (l28 : List PV) (i29 : Int) (i30 : Int) (b31 : Bool) (b32 : Bool) (b33 : Bool) (b34 : Bool) (b35 : Bool) (b36 : Bool) (b37 : Bool) (b38 : Bool) (b39 : Bool) (b40 : Bool) (b41 : Bool) (b42 : Bool) (b43 : Bool) (b44 : Bool) (b45 : Bool) (b46 : Bool) : L_bag_May_2 l26 l27 l28 i29 i30 b31 b32 b33 b34 b35 b36 b37 b38 b39 b40 b41 b42 b43 b44 b45 b46 =
  (bif (decide (i30 < i29)) then (bif (decide ((0 : Int) ≤ i30)) then (((l28)[(Int.toNat i30)]?).bind (fun v47 => (c_s3 v47 (fun v48 => (bif ((((List.length v48) : Nat) : Int) != (((List.length l26) : Nat) : Int)) then (some (PV.bool false)) else (((wc W n_slices_ContainsFunc_api_Val_api_Val [(PV.slice 3 v48), (PV.fn n_bag_May_1 [] [])])).bind (fun v49 => (c_b v49 (fun v50 => (bif v50 then (some (PV.bool false)) else (L_bag_May_2 l26 l27 l28 i29 (IntKind.wrap .i64 (i30 + (1 : Int) : Int)) b31 b32 b33 b34 b35 b36 b37 b38 b39 b40 b41 b42 b43 b44 b45 b46))))))))))) else none) else (some (PV.bool (decide ((((List.length l27) : Nat) : Int) ≤ (5000 : Int)))))) := (T16.loop [1, 1, 1, 1, 0, 1, 0] 1 _ rfl).trans (by kernel_rfl)
theorem e_bag_May (a0_0 : List PV) (a0_1 : List PV) : wc W n_bag_May [(PV.agg [(PV.slice 0 a0_0), (PV.slice 0 a0_1)])] =
  (L_bag_May_1 a0_0 a0_1 a0_0 (((List.length a0_0) : Nat) : Int) (0 : Int) false false false false false false false false false false false false false false false false) := go (by kernel_rfl) (by kernel_rfl) T16 (by kernel_rfl)
noncomputable def jF17 : Jn PV := (Classical.choose (exT fi17 (fin cfg fi17))).1
noncomputable def lF17 : Ln PV := (Classical.choose (exT fi17 (fin cfg fi17))).2
theorem T17 : Tied cfg W fi17 (fin cfg fi17) jF17 lF17 := Classical.choose_spec (exT fi17 (fin cfg fi17))
noncomputable def L_bag_some_1 (p3 : PV) (l4 : List PV) (i5 : Int) (i6 : Int) (l7 : List PV) (l8 : List PV) (l9 : List PV) (l10 : List PV) : Option PV := lF17 [0, 1, 0, 1, 1] 5 (St.mk [(1, (AV.pv p3)), (4, (AV.own 0 0)), (5, (AV.own 3 0)), (13, (AV.pv (PV.slice 0 l4))), (14, (AV.pv (PV.int .i64 i5))), (15, (AV.pv (PV.int .i64 i6)))] [(Ob.var false 3 (AV.agg [(AV.nil 0), (AV.nil 0)])), (Ob.row false 0 0 l7), (Ob.row false 0 0 l8), (Ob.var false 3 (AV.agg [(AV.pv (PV.slice 0 l9)), (AV.view 4 0 none)])), (Ob.row false 0 0 l10)])
theorem L_bag_some_1_eq (p3 : PV) (l4 : List PV) (i5 : Int) (i6 : Int) (l7 : List PV) (l8 : List PV) (l9 : List PV) (l10 : List PV) : L_bag_some_1 p3 l4 i5 i6 l7 l8 l9 l10 =
  (bif (decide (i6 < i5)) then (bif (decide ((0 : Int) ≤ i6)) then (((l4)[(Int.toNat i6)]?).bind (fun v11 => (c_s3 v11 (fun v12 => (((PV.asFn p3)).bind (fun v13 => (((wc W (Prod.fst v13) (((Prod.fst (Prod.snd v13)) ++ [(PV.slice 3 v12)]) ++ (Prod.snd (Prod.snd v13))))).bind (fun v14 => (c_b v14 (fun v15 => (bif v15 then (((wc W n_slices_Clone_api_Val_api_Val [(PV.slice 3 v12)])).bind (fun v16 => (c_s3 v16 (fun v17 => (bif (true && (decide (((List.length l10) + 1 : Nat) ≤ 4294967296))) then (L_bag_some_1 p3 l4 i5 (IntKind.wrap .i64 (i6 + (1 : Int) : Int)) l7 l8 l9 (l10 ++ [(PV.slice 3 v17)])) else none))))) else (L_bag_some_1 p3 l4 i5 (IntKind.wrap .i64 (i6 + (1 : Int) : Int)) l7 l8 l9 l10)))))))))))) else none) else (some (PV.agg [(PV.slice 0 l9), (PV.slice 0 l10)]))) := (T17.loop [1, 1, 0, 1, 0] 5 _ rfl).trans (by kernel_rfl)
theorem e_bag_some (a0_0 : List PV) (a0_1 : List PV) (a1 : PV) : wc W n_bag_some [(PV.agg [(PV.slice 0 a0_0), (PV.slice 0 a0_1)]), a1] =
  (((wc W n_slices_Clone_int_int [(PV.slice 0 a0_0)])).bind (fun v1 => (c_s0 v1 (fun v2 => (L_bag_some_1 a1 a0_1 (((List.length a0_1) : Nat) : Int) (0 : Int) [] [] v2 []))))) := go (by kernel_rfl) (by kernel_rfl) T17 (by kernel_rfl)
noncomputable def jF17r0 : Jn (AV × List Ob) := (Classical.choose (exT fi17 (finO cfg fi17 true 0))).1
noncomputable def lF17r0 : Ln (AV × List Ob) := (Classical.choose (exT fi17 (finO cfg fi17 true 0))).2
theorem T17r0 : Tied cfg W fi17 (finO cfg fi17 true 0) jF17r0 lF17r0 := Classical.choose_spec (exT fi17 (finO cfg fi17 true 0))
noncomputable def L_bag_some_r0_1 (l3 : List PV) (i4 : Int) (i5 : Int) (l6 : List PV) (l7 : List PV) (l8 : List PV) (l9 : List PV) : Option (AV × List Ob) := lF17r0 [0, 1, 0, 1, 1] 5 (St.mk [(1, (AV.pv (PV.fn n_bag_Sort_1 [] []))), (4, (AV.own 0 0)), (5, (AV.own 3 0)), (13, (AV.pv (PV.slice 0 l3))), (14, (AV.pv (PV.int .i64 i4))), (15, (AV.pv (PV.int .i64 i5)))] [(Ob.var false 3 (AV.agg [(AV.nil 0), (AV.nil 0)])), (Ob.row false 0 0 l6), (Ob.row false 0 0 l7), (Ob.var false 3 (AV.agg [(AV.pv (PV.slice 0 l8)), (AV.view 4 0 none)])), (Ob.row false 0 0 l9)])
theorem L_bag_some_r0_1_eq (l3 : List PV) (i4 : Int) (i5 : Int) (l6 : List PV) (l7 : List PV) (l8 : List PV) (l9 : List PV) : L_bag_some_r0_1 l3 i4 i5 l6 l7 l8 l9 =
  (bif (decide (i5 < i4)) then (bif (decide ((0 : Int) ≤ i5)) then (((l3)[(Int.toNat i5)]?).bind (fun v10 => (c_s3 v10 (fun v11 => (((wc W n_bag_Sort_1 [(PV.slice 3 v11)])).bind (fun v12 => (c_b v12 (fun v13 => (bif v13 then (((wc W n_slices_Clone_api_Val_api_Val [(PV.slice 3 v11)])).bind (fun v14 => (c_s3 v14 (fun v15 => (bif (true && (decide (((List.length l9) + 1 : Nat) ≤ 4294967296))) then (L_bag_some_r0_1 l3 i4 (IntKind.wrap .i64 (i5 + (1 : Int) : Int)) l6 l7 l8 (l9 ++ [(PV.slice 3 v15)])) else none))))) else (L_bag_some_r0_1 l3 i4 (IntKind.wrap .i64 (i5 + (1 : Int) : Int)) l6 l7 l8 l9)))))))))) else none) else (some ((AV.agg [(AV.pv (PV.slice 0 l8)), (AV.view 0 0 none)]), [(Ob.row false 0 0 l9)]))) := (T17r0.loop [1, 1, 0, 1, 0] 5 _ rfl).trans (by kernel_rfl)
theorem o_bag_some_r0_1 (l0 : List PV) (l1 : List PV) : W n_bag_some true [(AV.pv (PV.agg [(PV.slice 0 l0), (PV.slice 0 l1)])), (AV.pv (PV.fn n_bag_Sort_1 [] []))] [] =
  (((wc W n_slices_Clone_int_int [(PV.slice 0 l0)])).bind (fun v1 => (c_s0 v1 (fun v2 => (L_bag_some_r0_1 l1 (((List.length l1) : Nat) : Int) (0 : Int) [] [] v2 []))))) := goO (by kernel_rfl) (by kernel_rfl) T17r0 rfl (by kernel_rfl)
end Go.Cf

namespace Go.Cf
open Go Go.Ab
set_option linter.unusedVariables false
set_option maxRecDepth 100000
noncomputable def jF18 : Jn PV := (Classical.choose (exT fi18 (fin cfg fi18))).1
noncomputable def lF18 : Ln PV := (Classical.choose (exT fi18 (fin cfg fi18))).2
theorem T18 : Tied cfg W fi18 (fin cfg fi18) jF18 lF18 := Classical.choose_spec (exT fi18 (fin cfg fi18))
theorem e_bag_Sort_1 (a0 : List PV) : wc W n_bag_Sort_1 [(PV.slice 3 a0)] =
  (some (PV.bool true)) := go (by kernel_rfl) (by kernel_rfl) T18 (by kernel_rfl)
noncomputable def jF19 : Jn PV := (Classical.choose (exT fi19 (fin cfg fi19))).1
noncomputable def lF19 : Ln PV := (Classical.choose (exT fi19 (fin cfg fi19))).2
theorem T19 : Tied cfg W fi19 (fin cfg fi19) jF19 lF19 := Classical.choose_spec (exT fi19 (fin cfg fi19))
noncomputable def L_slices_Index_int_int_1 (l1 : List PV) (i2 : Int) (i3 : Int) (i4 : Int) : Option PV := lF19 [0, 1, 0, 1] 0 (St.mk [(0, (AV.pv (PV.slice 0 l1))), (1, (AV.pv (PV.int .i64 i2))), (7, (AV.pv (PV.int .i64 i3))), (8, (AV.pv (PV.int .i64 i4)))] [])
theorem L_slices_Index_int_int_1_eq (l1 : List PV) (i2 : Int) (i3 : Int) (i4 : Int) : L_slices_Index_int_int_1 l1 i2 i3 i4 =
  (bif (decide (i4 < i3)) then (bif (decide ((0 : Int) ≤ i4)) then (((l1)[(Int.toNat i4)]?).bind (fun v5 => (c_i64 v5 (fun v6 => (bif (i2 == v6) then (some (PV.int .i64 i4)) else (L_slices_Index_int_int_1 l1 i2 i3 (IntKind.wrap .i64 (i4 + (1 : Int) : Int)))))))) else none) else (some (PV.int .i64 (-1 : Int)))) := (T19.loop [1, 0, 1, 0] 0 _ rfl).trans (by kernel_rfl)
theorem e_slices_Index_int_int (a0 : List PV) (a1 : Int) : wc W n_slices_Index_int_int [(PV.slice 0 a0), (PV.int .i64 a1)] =
  (L_slices_Index_int_int_1 a0 a1 (((List.length a0) : Nat) : Int) (0 : Int)) := go (by kernel_rfl) (by kernel_rfl) T19 (by kernel_rfl)
noncomputable def jF20 : Jn PV := (Classical.choose (exT fi20 (fin cfg fi20))).1
noncomputable def lF20 : Ln PV := (Classical.choose (exT fi20 (fin cfg fi20))).2
theorem T20 : Tied cfg W fi20 (fin cfg fi20) jF20 lF20 := Classical.choose_spec (exT fi20 (fin cfg fi20))
theorem e_slices_SortStableFunc_api_Val_api_Val (a0 : List PV) (a1 : PV) : wc W n_slices_SortStableFunc_api_Val_api_Val [(PV.slice 0 a0), a1] =
  (((wc W n_slices_stableCmpFunc_api_Val [(PV.slice 0 a0), (PV.int .i64 (((List.length a0) : Nat) : Int)), a1])).bind (fun v1 => (some (PV.tup [])))) := go (by kernel_rfl) (by kernel_rfl) T20 (by kernel_rfl)
noncomputable def jF20o2 : Jn (AV × List Ob) := (Classical.choose (exT fi20 (finO cfg fi20 false 2))).1
noncomputable def lF20o2 : Ln (AV × List Ob) := (Classical.choose (exT fi20 (finO cfg fi20 false 2))).2
theorem T20o2 : Tied cfg W fi20 (finO cfg fi20 false 2) jF20o2 lF20o2 := Classical.choose_spec (exT fi20 (finO cfg fi20 false 2))
theorem o_slices_SortStableFunc_api_Val_api_Val_o2_1 (l0 : List PV) (i1 : Int) : W n_slices_SortStableFunc_api_Val_api_Val false [(AV.fx 0 0), (AV.fnv n_bag_Sort_2 [] [(AV.own 1 0)])] [(Ob.fix 0 0 l0), (Ob.var false 0 (AV.pv (PV.int .i64 i1)))] =
  (((W n_slices_stableCmpFunc_api_Val false [(AV.fx 0 0), (AV.pv (PV.int .i64 (((List.length l0) : Nat) : Int))), (AV.fnv n_bag_Sort_2 [] [(AV.own 1 0)])] [(Ob.fix 0 0 l0), (Ob.var false 0 (AV.pv (PV.int .i64 i1)))])).bind (fun v4 => (k_c4d914 v4 (fun v5 v6 v7 => (some ((AV.pv (PV.tup [])), [(Ob.fix 0 0 v6), (Ob.var false 0 (AV.pv (PV.int .i64 v7)))])))))) := goO (by kernel_rfl) (by kernel_rfl) T20o2 rfl (by kernel_rfl)
noncomputable def jF21 : Jn PV := (Classical.choose (exT fi21 (fin cfg fi21))).1
noncomputable def lF21 : Ln PV := (Classical.choose (exT fi21 (fin cfg fi21))).2
theorem T21 : Tied cfg W fi21 (fin cfg fi21) jF21 lF21 := Classical.choose_spec (exT fi21 (fin cfg fi21))
theorem e_bag_Sort_2 (a0 : List PV) (a1 : List PV) (c0 : Int) : wc W n_bag_Sort_2 [(PV.slice 3 a0), (PV.slice 3 a1), (PV.imm 0 (PV.int .i64 c0) 0)] =
  (((wc W n_bag_of [(PV.slice 3 a0), (PV.int .i64 c0)])).bind (fun v1 => (c_g_i64_i64 v1 (fun v2 v3 => (((wc W n_bag_of [(PV.slice 3 a1), (PV.int .i64 c0)])).bind (fun v4 => (c_g_i64_i64 v4 (fun v5 v6 => (((wc W n_bag_compare [(PV.agg [(PV.int .i64 v2), (PV.int .i64 v3)]), (PV.agg [(PV.int .i64 v5), (PV.int .i64 v6)])])).bind (fun v7 => (c_i64 v7 (fun v8 => (some (PV.int .i64 v8)))))))))))))) := go (by kernel_rfl) (by kernel_rfl) T21 (by kernel_rfl)
noncomputable def jF21o1 : Jn (AV × List Ob) := (Classical.choose (exT fi21 (finO cfg fi21 false 1))).1
noncomputable def lF21o1 : Ln (AV × List Ob) := (Classical.choose (exT fi21 (finO cfg fi21 false 1))).2
theorem T21o1 : Tied cfg W fi21 (finO cfg fi21 false 1) jF21o1 lF21o1 := Classical.choose_spec (exT fi21 (finO cfg fi21 false 1))
theorem o_bag_Sort_2_o1_1 (l0 : List PV) (l1 : List PV) (i2 : Int) : W n_bag_Sort_2 false [(AV.pv (PV.slice 3 l0)), (AV.pv (PV.slice 3 l1)), (AV.own 0 0)] [(Ob.var false 0 (AV.pv (PV.int .i64 i2)))] =
  (((wc W n_bag_of [(PV.slice 3 l0), (PV.int .i64 i2)])).bind (fun v1 => (c_g_i64_i64 v1 (fun v2 v3 => (((wc W n_bag_of [(PV.slice 3 l1), (PV.int .i64 i2)])).bind (fun v4 => (c_g_i64_i64 v4 (fun v5 v6 => (((wc W n_bag_compare [(PV.agg [(PV.int .i64 v2), (PV.int .i64 v3)]), (PV.agg [(PV.int .i64 v5), (PV.int .i64 v6)])])).bind (fun v7 => (c_i64 v7 (fun v8 => (some ((AV.pv (PV.int .i64 v8)), [(Ob.var false 0 (AV.pv (PV.int .i64 i2)))])))))))))))))) := goO (by kernel_rfl) (by kernel_rfl) T21o1 rfl (by kernel_rfl)
noncomputable def jF22 : Jn PV := (Classical.choose (exT fi22 (fin cfg fi22))).1
noncomputable def lF22 : Ln PV := (Classical.choose (exT fi22 (fin cfg fi22))).2
theorem T22 : Tied cfg W fi22 (fin cfg fi22) jF22 lF22 := Classical.choose_spec (exT fi22 (fin cfg fi22))
theorem e_bag_compare (a0_0 : Int) (a0_1 : Int) (a1_0 : Int) (a1_1 : Int) : wc W n_bag_compare [(PV.agg [(PV.int .i64 a0_0), (PV.int .i64 a0_1)]), (PV.agg [(PV.int .i64 a1_0), (PV.int .i64 a1_1)])] =
  (((((bif (a0_0 == a1_0) then (bif (a0_1 == a1_1) then (some true) else (some false)) else (some false))).bind (fun v1 => (some (PV.bool v1))))).bind (fun v2 => (c_b v2 (fun v3 => (bif v3 then (some (PV.int .i64 (0 : Int))) else (((wc W n_slices_Compare_int_int [(PV.slice 0 [(PV.int .i64 a0_0), (PV.int .i64 a0_1)]), (PV.slice 0 [(PV.int .i64 a1_0), (PV.int .i64 a1_1)])])).bind (fun v4 => (c_i64 v4 (fun v5 => (some (PV.int .i64 v5))))))))))) := go (by kernel_rfl) (by kernel_rfl) T22 (by kernel_rfl)
noncomputable def jF23 : Jn PV := (Classical.choose (exT fi23 (fin cfg fi23))).1
noncomputable def lF23 : Ln PV := (Classical.choose (exT fi23 (fin cfg fi23))).2
theorem T23 : Tied cfg W fi23 (fin cfg fi23) jF23 lF23 := Classical.choose_spec (exT fi23 (fin cfg fi23))
noncomputable def J_bag_of_1 (l1 : List PV) (i2 : Int) (i3 : Int) (i4 : Int) : Option PV := jF23 [1, 1] (St.mk [(0, (AV.pv (PV.slice 3 l1))), (1, (AV.pv (PV.int .i64 i2))), (4, (AV.own 0 0))] [(Ob.var false 3 (AV.pv (PV.agg [(PV.int .i64 i3), (PV.int .i64 i4)])))])
noncomputable def J_bag_of_2 (i10 : Int) (i11 : Int) (i12 : Int) (i13 : Int) : Option PV := jF23 [1, 1, 1, 1] (St.mk [(4, (AV.own 0 0)), (5, (AV.own 1 0))] [(Ob.var false 3 (AV.pv (PV.agg [(PV.int .i64 i10), (PV.int .i64 i11)]))), (Ob.var false 3 (AV.pv (PV.agg [(PV.int .i64 i12), (PV.int .i64 i13)])))])
theorem J_bag_of_1_eq (l1 : List PV) (i2 : Int) (i3 : Int) (i4 : Int) : J_bag_of_1 l1 i2 i3 i4 =
  (bif (decide ((0 : Int) ≤ i2)) then (((l1)[(Int.toNat i2)]?).bind (fun v5 => (c_g_i64_i64 v5 (fun v6 v7 => (((wc W n_val_May [(PV.agg [(PV.int .i64 v6), (PV.int .i64 v7)])])).bind (fun v8 => (c_b v8 (fun v9 => (bif (!v9) then (J_bag_of_2 i3 i4 (2 : Int) (0 : Int)) else (J_bag_of_2 i3 i4 v6 v7)))))))))) else none) := (T23.join [1, 1] _).trans (by kernel_rfl)
theorem J_bag_of_2_eq (i10 : Int) (i11 : Int) (i12 : Int) (i13 : Int) : J_bag_of_2 i10 i11 i12 i13 =
  (some (PV.agg [(PV.int .i64 i12), (PV.int .i64 i13)])) := (T23.join [1, 1, 1, 1] _).trans (by kernel_rfl)
theorem e_bag_of (a0 : List PV) (a1 : Int) : wc W n_bag_of [(PV.slice 3 a0), (PV.int .i64 a1)] =
  (bif (decide (a1 < (0 : Int))) then (some (PV.agg [(PV.int .i64 (0 : Int)), (PV.int .i64 (0 : Int))])) else (bif (decide (GE.ge a1 (((List.length a0) : Nat) : Int))) then (some (PV.agg [(PV.int .i64 (0 : Int)), (PV.int .i64 (0 : Int))])) else (J_bag_of_1 a0 a1 (0 : Int) (0 : Int)))) := go (by kernel_rfl) (by kernel_rfl) T23 (by kernel_rfl)
noncomputable def jF24 : Jn PV := (Classical.choose (exT fi24 (fin cfg fi24))).1
noncomputable def lF24 : Ln PV := (Classical.choose (exT fi24 (fin cfg fi24))).2
theorem T24 : Tied cfg W fi24 (fin cfg fi24) jF24 lF24 := Classical.choose_spec (exT fi24 (fin cfg fi24))
noncomputable def L_slices_IsSortedFunc_api_Val_api_Val_1 (l1 : List PV) (p2 : PV) (i3 : Int) : Option PV := lF24 [0, 1, 0, 1] 0 (St.mk [(0, (AV.pv (PV.slice 0 l1))), (1, (AV.pv p2)), (5, (AV.pv (PV.int .i64 i3)))] [])
theorem L_slices_IsSortedFunc_api_Val_api_Val_1_eq (l1 : List PV) (p2 : PV) (i3 : Int) : L_slices_IsSortedFunc_api_Val_api_Val_1 l1 p2 i3 =
  (bif (decide (GT.gt i3 (0 : Int))) then (bif (decide ((0 : Int) ≤ i3)) then (((l1)[(Int.toNat i3)]?).bind (fun v4 => (c_s3 v4 (fun v5 => (bif (decide ((0 : Int) ≤ (IntKind.wrap .i64 (i3 - (1 : Int) : Int)))) then (((l1)[(Int.toNat (IntKind.wrap .i64 (i3 - (1 : Int) : Int)))]?).bind (fun v6 => (c_s3 v6 (fun v7 => (((PV.asFn p2)).bind (fun v8 => (((wc W (Prod.fst v8) (((Prod.fst (Prod.snd v8)) ++ [(PV.slice 3 v5), (PV.slice 3 v7)]) ++ (Prod.snd (Prod.snd v8))))).bind (fun v9 => (c_i64 v9 (fun v10 => (bif (decide (v10 < (0 : Int))) then (some (PV.bool false)) else (L_slices_IsSortedFunc_api_Val_api_Val_1 l1 p2 (IntKind.wrap .i64 (i3 - (1 : Int) : Int)))))))))))))) else none))))) else none) else (some (PV.bool true))) := (T24.loop [1, 0, 1, 0] 0 _ rfl).trans (by kernel_rfl)
theorem e_slices_IsSortedFunc_api_Val_api_Val (a0 : List PV) (a1 : PV) : wc W n_slices_IsSortedFunc_api_Val_api_Val [(PV.slice 0 a0), a1] =
  (L_slices_IsSortedFunc_api_Val_api_Val_1 a0 a1 (IntKind.wrap .i64 ((((List.length a0) : Nat) : Int) - (1 : Int) : Int))) := go (by kernel_rfl) (by kernel_rfl) T24 (by kernel_rfl)
noncomputable def jF24o1 : Jn (AV × List Ob) := (Classical.choose (exT fi24 (finO cfg fi24 false 1))).1
noncomputable def lF24o1 : Ln (AV × List Ob) := (Classical.choose (exT fi24 (finO cfg fi24 false 1))).2
theorem T24o1 : Tied cfg W fi24 (finO cfg fi24 false 1) jF24o1 lF24o1 := Classical.choose_spec (exT fi24 (finO cfg fi24 false 1))
noncomputable def L_slices_IsSortedFunc_api_Val_api_Val_o1_1 (l1 : List PV) (i2 : Int) (i3 : Int) : Option (AV × List Ob) := lF24o1 [0, 1, 0, 1] 1 (St.mk [(0, (AV.pv (PV.slice 0 l1))), (1, (AV.fnv n_bag_Sorted_1 [] [(AV.own 0 0)])), (5, (AV.pv (PV.int .i64 i2)))] [(Ob.var false 0 (AV.pv (PV.int .i64 i3)))])
theorem L_slices_IsSortedFunc_api_Val_api_Val_o1_1_eq (l1 : List PV) (i2 : Int) (i3 : Int) : L_slices_IsSortedFunc_api_Val_api_Val_o1_1 l1 i2 i3 =
  (bif (decide (GT.gt i2 (0 : Int))) then (bif (decide ((0 : Int) ≤ i2)) then (((l1)[(Int.toNat i2)]?).bind (fun v4 => (c_s3 v4 (fun v5 => (bif (decide ((0 : Int) ≤ (IntKind.wrap .i64 (i2 - (1 : Int) : Int)))) then (((l1)[(Int.toNat (IntKind.wrap .i64 (i2 - (1 : Int) : Int)))]?).bind (fun v6 => (c_s3 v6 (fun v7 => (((W n_bag_Sorted_1 false [(AV.pv (PV.slice 3 v5)), (AV.pv (PV.slice 3 v7)), (AV.own 0 0)] [(Ob.var false 0 (AV.pv (PV.int .i64 i3)))])).bind (fun v11 => (k_5b106d v11 (fun v12 v13 => (c_i64 v12 (fun v14 => (bif (decide (v14 < (0 : Int))) then (some ((AV.pv (PV.bool false)), [(Ob.var false 0 (AV.pv (PV.int .i64 v13)))])) else (L_slices_IsSortedFunc_api_Val_api_Val_o1_1 l1 (IntKind.wrap .i64 (i2 - (1 : Int) : Int)) v13)))))))))))) else none))))) else none) else (some ((AV.pv (PV.bool true)), [(Ob.var false 0 (AV.pv (PV.int .i64 i3)))]))) := (T24o1.loop [1, 0, 1, 0] 1 _ rfl).trans (by kernel_rfl)
theorem o_slices_IsSortedFunc_api_Val_api_Val_o1_1 (l0 : List PV) (i1 : Int) : W n_slices_IsSortedFunc_api_Val_api_Val false [(AV.pv (PV.slice 0 l0)), (AV.fnv n_bag_Sorted_1 [] [(AV.own 0 0)])] [(Ob.var false 0 (AV.pv (PV.int .i64 i1)))] =
  (L_slices_IsSortedFunc_api_Val_api_Val_o1_1 l0 (IntKind.wrap .i64 ((((List.length l0) : Nat) : Int) - (1 : Int) : Int)) i1) := goO (by kernel_rfl) (by kernel_rfl) T24o1 rfl (by kernel_rfl)
noncomputable def jF25 : Jn PV := (Classical.choose (exT fi25 (fin cfg fi25))).1
noncomputable def lF25 : Ln PV := (Classical.choose (exT fi25 (fin cfg fi25))).2
theorem T25 : Tied cfg W fi25 (fin cfg fi25) jF25 lF25 := Classical.choose_spec (exT fi25 (fin cfg fi25))
theorem e_bag_Sorted_1 (a0 : List PV) (a1 : List PV) (c0 : Int) : wc W n_bag_Sorted_1 [(PV.slice 3 a0), (PV.slice 3 a1), (PV.imm 0 (PV.int .i64 c0) 0)] =
  (((wc W n_bag_of [(PV.slice 3 a0), (PV.int .i64 c0)])).bind (fun v1 => (c_g_i64_i64 v1 (fun v2 v3 => (((wc W n_bag_of [(PV.slice 3 a1), (PV.int .i64 c0)])).bind (fun v4 => (c_g_i64_i64 v4 (fun v5 v6 => (((wc W n_bag_compare [(PV.agg [(PV.int .i64 v2), (PV.int .i64 v3)]), (PV.agg [(PV.int .i64 v5), (PV.int .i64 v6)])])).bind (fun v7 => (c_i64 v7 (fun v8 => (some (PV.int .i64 v8)))))))))))))) := go (by kernel_rfl) (by kernel_rfl) T25 (by kernel_rfl)
noncomputable def jF25o1 : Jn (AV × List Ob) := (Classical.choose (exT fi25 (finO cfg fi25 false 1))).1
noncomputable def lF25o1 : Ln (AV × List Ob) := (Classical.choose (exT fi25 (finO cfg fi25 false 1))).2
theorem T25o1 : Tied cfg W fi25 (finO cfg fi25 false 1) jF25o1 lF25o1 := Classical.choose_spec (exT fi25 (finO cfg fi25 false 1))
theorem o_bag_Sorted_1_o1_1 (l0 : List PV) (l1 : List PV) (i2 : Int) : W n_bag_Sorted_1 false [(AV.pv (PV.slice 3 l0)), (AV.pv (PV.slice 3 l1)), (AV.own 0 0)] [(Ob.var false 0 (AV.pv (PV.int .i64 i2)))] =
  (((wc W n_bag_of [(PV.slice 3 l0), (PV.int .i64 i2)])).bind (fun v1 => (c_g_i64_i64 v1 (fun v2 v3 => (((wc W n_bag_of [(PV.slice 3 l1), (PV.int .i64 i2)])).bind (fun v4 => (c_g_i64_i64 v4 (fun v5 v6 => (((wc W n_bag_compare [(PV.agg [(PV.int .i64 v2), (PV.int .i64 v3)]), (PV.agg [(PV.int .i64 v5), (PV.int .i64 v6)])])).bind (fun v7 => (c_i64 v7 (fun v8 => (some ((AV.pv (PV.int .i64 v8)), [(Ob.var false 0 (AV.pv (PV.int .i64 i2)))])))))))))))))) := goO (by kernel_rfl) (by kernel_rfl) T25o1 rfl (by kernel_rfl)
noncomputable def jF26 : Jn PV := (Classical.choose (exT fi26 (fin cfg fi26))).1
noncomputable def lF26 : Ln PV := (Classical.choose (exT fi26 (fin cfg fi26))).2
theorem T26 : Tied cfg W fi26 (fin cfg fi26) jF26 lF26 := Classical.choose_spec (exT fi26 (fin cfg fi26))
noncomputable def L_slices_Equal_int_int_1 (l1 : List PV) (l2 : List PV) (i3 : Int) (i4 : Int) : Option PV := lF26 [0, 1, 0, 1, 1] 0 (St.mk [(0, (AV.pv (PV.slice 0 l1))), (1, (AV.pv (PV.slice 0 l2))), (12, (AV.pv (PV.int .i64 i3))), (13, (AV.pv (PV.int .i64 i4)))] [])
theorem L_slices_Equal_int_int_1_eq (l1 : List PV) (l2 : List PV) (i3 : Int) (i4 : Int) : L_slices_Equal_int_int_1 l1 l2 i3 i4 =
  (bif (decide (i4 < i3)) then (bif (decide ((0 : Int) ≤ i4)) then (((l1)[(Int.toNat i4)]?).bind (fun v5 => (c_i64 v5 (fun v6 => (bif (decide ((0 : Int) ≤ i4)) then (((l2)[(Int.toNat i4)]?).bind (fun v7 => (c_i64 v7 (fun v8 => (bif (v6 != v8) then (some (PV.bool false)) else (L_slices_Equal_int_int_1 l1 l2 i3 (IntKind.wrap .i64 (i4 + (1 : Int) : Int)))))))) else none))))) else none) else (some (PV.bool true))) := (T26.loop [1, 1, 0, 1, 0] 0 _ rfl).trans (by kernel_rfl)
theorem e_slices_Equal_int_int (a0 : List PV) (a1 : List PV) : wc W n_slices_Equal_int_int [(PV.slice 0 a0), (PV.slice 0 a1)] =
  (bif ((((List.length a0) : Nat) : Int) != (((List.length a1) : Nat) : Int)) then (some (PV.bool false)) else (L_slices_Equal_int_int_1 a0 a1 (((List.length a0) : Nat) : Int) (0 : Int))) := go (by kernel_rfl) (by kernel_rfl) T26 (by kernel_rfl)
noncomputable def jF28 : Jn PV := (Classical.choose (exT fi28 (fin cfg fi28))).1
noncomputable def lF28 : Ln PV := (Classical.choose (exT fi28 (fin cfg fi28))).2
theorem T28 : Tied cfg W fi28 (fin cfg fi28) jF28 lF28 := Classical.choose_spec (exT fi28 (fin cfg fi28))
noncomputable def L_roadbookref02_Ints_1 (l1 : List PV) (l2 : List PV) (i3 : Int) : Option PV := lF28 [0, 1, 0, 1, 1] 0 (St.mk [(0, (AV.pv (PV.slice 0 l1))), (1, (AV.pv (PV.slice 0 l2))), (5, (AV.pv (PV.int .i64 i3)))] [])
theorem L_roadbookref02_Ints_1_eq (l1 : List PV) (l2 : List PV) (i3 : Int) : L_roadbookref02_Ints_1 l1 l2 i3 =
  (bif (decide (i3 < (((List.length l1) : Nat) : Int))) then (bif (decide ((0 : Int) ≤ i3)) then (((l1)[(Int.toNat i3)]?).bind (fun v4 => (c_i64 v4 (fun v5 => (bif (decide ((0 : Int) ≤ i3)) then (((l2)[(Int.toNat i3)]?).bind (fun v6 => (c_i64 v6 (fun v7 => (bif (v5 != v7) then (some (PV.bool false)) else (L_roadbookref02_Ints_1 l1 l2 (IntKind.wrap .i64 (i3 + (1 : Int) : Int)))))))) else none))))) else none) else (some (PV.bool true))) := (T28.loop [1, 1, 0, 1, 0] 0 _ rfl).trans (by kernel_rfl)
theorem e_roadbookref02_Ints (a0 : List PV) (a1 : List PV) : wc W n_roadbookref02_Ints [(PV.slice 0 a0), (PV.slice 0 a1)] =
  (bif ((((List.length a0) : Nat) : Int) != (((List.length a1) : Nat) : Int)) then (some (PV.bool false)) else (L_roadbookref02_Ints_1 a0 a1 (0 : Int))) := go (by kernel_rfl) (by kernel_rfl) T28 (by kernel_rfl)
noncomputable def jF29 : Jn PV := (Classical.choose (exT fi29 (fin cfg fi29))).1
noncomputable def lF29 : Ln PV := (Classical.choose (exT fi29 (fin cfg fi29))).2
theorem T29 : Tied cfg W fi29 (fin cfg fi29) jF29 lF29 := Classical.choose_spec (exT fi29 (fin cfg fi29))
noncomputable def L_roadbookref03_Row_1 (l1 : List PV) (l2 : List PV) (i3 : Int) : Option PV := lF29 [0, 1, 0, 1, 1] 0 (St.mk [(0, (AV.pv (PV.slice 3 l1))), (1, (AV.pv (PV.slice 3 l2))), (5, (AV.pv (PV.int .i64 i3)))] [])
theorem L_roadbookref03_Row_1_eq (l1 : List PV) (l2 : List PV) (i3 : Int) : L_roadbookref03_Row_1 l1 l2 i3 =
  (bif (decide (i3 < (((List.length l1) : Nat) : Int))) then (bif (decide ((0 : Int) ≤ i3)) then (((l1)[(Int.toNat i3)]?).bind (fun v4 => (c_g_i64_i64 v4 (fun v5 v6 => (bif (decide ((0 : Int) ≤ i3)) then (((l2)[(Int.toNat i3)]?).bind (fun v7 => (c_g_i64_i64 v7 (fun v8 v9 => (((((bif (v5 == v8) then (bif (v6 == v9) then (some true) else (some false)) else (some false))).bind (fun v10 => (some (PV.bool (!v10)))))).bind (fun v11 => (c_b v11 (fun v12 => (bif v12 then (some (PV.bool false)) else (L_roadbookref03_Row_1 l1 l2 (IntKind.wrap .i64 (i3 + (1 : Int) : Int)))))))))))) else none))))) else none) else (some (PV.bool true))) := (T29.loop [1, 1, 0, 1, 0] 0 _ rfl).trans (by kernel_rfl)
theorem e_roadbookref03_Row (a0 : List PV) (a1 : List PV) : wc W n_roadbookref03_Row [(PV.slice 3 a0), (PV.slice 3 a1)] =
  (bif ((((List.length a0) : Nat) : Int) != (((List.length a1) : Nat) : Int)) then (some (PV.bool false)) else (L_roadbookref03_Row_1 a0 a1 (0 : Int))) := go (by kernel_rfl) (by kernel_rfl) T29 (by kernel_rfl)
noncomputable def jF30 : Jn PV := (Classical.choose (exT fi30 (fin cfg fi30))).1
noncomputable def lF30 : Ln PV := (Classical.choose (exT fi30 (fin cfg fi30))).2
theorem T30 : Tied cfg W fi30 (fin cfg fi30) jF30 lF30 := Classical.choose_spec (exT fi30 (fin cfg fi30))
noncomputable def L_slices_Concat_int_int_1 (l1 : List PV) (i2 : Int) (l3 : List PV) (i4 : Int) (i5 : Int) : Option PV := lF30 [0, 1, 0, 1, 1] 0 (St.mk [(0, (AV.pv (PV.slice 0 l1))), (3, (AV.pv (PV.int .i64 i2))), (9, (AV.pv (PV.slice 0 l3))), (10, (AV.pv (PV.int .i64 i4))), (11, (AV.pv (PV.int .i64 i5)))] [])
noncomputable def L_slices_Concat_int_int_2 (l11 : List PV) (i12 : Int) (i13 : Int) (l14 : List PV) : Option PV := lF30 [0, 1, 0, 1, 1, 1, 1] 1 (St.mk [(6, (AV.view 0 0 none)), (25, (AV.pv (PV.slice 0 l11))), (26, (AV.pv (PV.int .i64 i12))), (27, (AV.pv (PV.int .i64 i13)))] [(Ob.row false 0 0 l14)])
theorem L_slices_Concat_int_int_1_eq (l1 : List PV) (i2 : Int) (l3 : List PV) (i4 : Int) (i5 : Int) : L_slices_Concat_int_int_1 l1 i2 l3 i4 i5 =
  (bif (decide (i5 < i4)) then (bif (decide ((0 : Int) ≤ i5)) then (((l3)[(Int.toNat i5)]?).bind (fun v6 => (c_s0 v6 (fun v7 => (bif (decide ((IntKind.wrap .i64 (i2 + (((List.length v7) : Nat) : Int) : Int)) < (0 : Int))) then none else (L_slices_Concat_int_int_1 l1 (IntKind.wrap .i64 (i2 + (((List.length v7) : Nat) : Int) : Int)) l3 i4 (IntKind.wrap .i64 (i5 + (1 : Int) : Int)))))))) else none) else (((W n_slices_Grow_int_int true [(AV.nil 0), (AV.pv (PV.int .i64 i2))] [])).bind (fun v9 => (k_d697de v9 (fun v10 => (L_slices_Concat_int_int_2 l1 (((List.length l1) : Nat) : Int) (0 : Int) v10)))))) := (T30.loop [1, 1, 0, 1, 0] 0 _ rfl).trans (by kernel_rfl)
theorem L_slices_Concat_int_int_2_eq (l11 : List PV) (i12 : Int) (i13 : Int) (l14 : List PV) : L_slices_Concat_int_int_2 l11 i12 i13 l14 =
  (bif (decide (i13 < i12)) then (bif (decide ((0 : Int) ≤ i13)) then (((l11)[(Int.toNat i13)]?).bind (fun v15 => (c_s0 v15 (fun v16 => (bif (true && (decide (((List.length l14) + (List.length v16) : Nat) ≤ 4294967296))) then (L_slices_Concat_int_int_2 l11 i12 (IntKind.wrap .i64 (i13 + (1 : Int) : Int)) (l14 ++ v16)) else none))))) else none) else (some (PV.slice 0 l14))) := (T30.loop [1, 1, 1, 1, 0, 1, 0] 1 _ rfl).trans (by kernel_rfl)
theorem e_slices_Concat_int_int (a0 : List PV) : wc W n_slices_Concat_int_int [(PV.slice 0 a0)] =
  (L_slices_Concat_int_int_1 a0 (0 : Int) a0 (((List.length a0) : Nat) : Int) (0 : Int)) := go (by kernel_rfl) (by kernel_rfl) T30 (by kernel_rfl)
noncomputable def jF31 : Jn PV := (Classical.choose (exT fi31 (fin cfg fi31))).1
noncomputable def lF31 : Ln PV := (Classical.choose (exT fi31 (fin cfg fi31))).2
theorem T31 : Tied cfg W fi31 (fin cfg fi31) jF31 lF31 := Classical.choose_spec (exT fi31 (fin cfg fi31))
noncomputable def L_slices_Concat_api_Val_api_Val_1 (l1 : List PV) (i2 : Int) (l3 : List PV) (i4 : Int) (i5 : Int) : Option PV := lF31 [0, 1, 0, 1, 1] 0 (St.mk [(0, (AV.pv (PV.slice 0 l1))), (3, (AV.pv (PV.int .i64 i2))), (9, (AV.pv (PV.slice 0 l3))), (10, (AV.pv (PV.int .i64 i4))), (11, (AV.pv (PV.int .i64 i5)))] [])
noncomputable def L_slices_Concat_api_Val_api_Val_2 (l11 : List PV) (i12 : Int) (i13 : Int) (l14 : List PV) : Option PV := lF31 [0, 1, 0, 1, 1, 1, 1] 1 (St.mk [(6, (AV.view 0 0 none)), (25, (AV.pv (PV.slice 0 l11))), (26, (AV.pv (PV.int .i64 i12))), (27, (AV.pv (PV.int .i64 i13)))] [(Ob.row false 0 3 l14)])
theorem L_slices_Concat_api_Val_api_Val_1_eq (l1 : List PV) (i2 : Int) (l3 : List PV) (i4 : Int) (i5 : Int) : L_slices_Concat_api_Val_api_Val_1 l1 i2 l3 i4 i5 =
  (bif (decide (i5 < i4)) then (bif (decide ((0 : Int) ≤ i5)) then (((l3)[(Int.toNat i5)]?).bind (fun v6 => (c_s3 v6 (fun v7 => (bif (decide ((IntKind.wrap .i64 (i2 + (((List.length v7) : Nat) : Int) : Int)) < (0 : Int))) then none else (L_slices_Concat_api_Val_api_Val_1 l1 (IntKind.wrap .i64 (i2 + (((List.length v7) : Nat) : Int) : Int)) l3 i4 (IntKind.wrap .i64 (i5 + (1 : Int) : Int)))))))) else none) else (((W n_slices_Grow_api_Val_api_Val true [(AV.nil 3), (AV.pv (PV.int .i64 i2))] [])).bind (fun v9 => (k_83ed81 v9 (fun v10 => (L_slices_Concat_api_Val_api_Val_2 l1 (((List.length l1) : Nat) : Int) (0 : Int) v10)))))) := (T31.loop [1, 1, 0, 1, 0] 0 _ rfl).trans (by kernel_rfl)
theorem L_slices_Concat_api_Val_api_Val_2_eq (l11 : List PV) (i12 : Int) (i13 : Int) (l14 : List PV) : L_slices_Concat_api_Val_api_Val_2 l11 i12 i13 l14 =
  (bif (decide (i13 < i12)) then (bif (decide ((0 : Int) ≤ i13)) then (((l11)[(Int.toNat i13)]?).bind (fun v15 => (c_s3 v15 (fun v16 => (bif (true && (decide (((List.length l14) + (List.length v16) : Nat) ≤ 4294967296))) then (L_slices_Concat_api_Val_api_Val_2 l11 i12 (IntKind.wrap .i64 (i13 + (1 : Int) : Int)) (l14 ++ v16)) else none))))) else none) else (some (PV.slice 3 l14))) := (T31.loop [1, 1, 1, 1, 0, 1, 0] 1 _ rfl).trans (by kernel_rfl)
theorem e_slices_Concat_api_Val_api_Val (a0 : List PV) : wc W n_slices_Concat_api_Val_api_Val [(PV.slice 0 a0)] =
  (L_slices_Concat_api_Val_api_Val_1 a0 (0 : Int) a0 (((List.length a0) : Nat) : Int) (0 : Int)) := go (by kernel_rfl) (by kernel_rfl) T31 (by kernel_rfl)
noncomputable def jF39 : Jn PV := (Classical.choose (exT fi39 (fin cfg fi39))).1
noncomputable def lF39 : Ln PV := (Classical.choose (exT fi39 (fin cfg fi39))).2
theorem T39 : Tied cfg W fi39 (fin cfg fi39) jF39 lF39 := Classical.choose_spec (exT fi39 (fin cfg fi39))
theorem e_bag_May_1 (a0_0 : Int) (a0_1 : Int) : wc W n_bag_May_1 [(PV.agg [(PV.int .i64 a0_0), (PV.int .i64 a0_1)])] =
  (((wc W n_val_May [(PV.agg [(PV.int .i64 a0_0), (PV.int .i64 a0_1)])])).bind (fun v1 => (c_b v1 (fun v2 => (some (PV.bool (!v2))))))) := go (by kernel_rfl) (by kernel_rfl) T39 (by kernel_rfl)
noncomputable def jF40 : Jn PV := (Classical.choose (exT fi40 (fin cfg fi40))).1
noncomputable def lF40 : Ln PV := (Classical.choose (exT fi40 (fin cfg fi40))).2
theorem T40 : Tied cfg W fi40 (fin cfg fi40) jF40 lF40 := Classical.choose_spec (exT fi40 (fin cfg fi40))
theorem e_val_May (a0_0 : Int) (a0_1 : Int) : wc W n_val_May [(PV.agg [(PV.int .i64 a0_0), (PV.int .i64 a0_1)])] =
  (bif (decide (GE.ge a0_0 (0 : Int))) then (bif (decide (a0_0 < (3 : Int))) then (bif (a0_0 == (0 : Int)) then (some (PV.bool true)) else (some (PV.bool (a0_1 == (0 : Int))))) else (some (PV.bool false))) else (some (PV.bool false))) := go (by kernel_rfl) (by kernel_rfl) T40 (by kernel_rfl)
noncomputable def jF41 : Jn PV := (Classical.choose (exT fi41 (fin cfg fi41))).1
noncomputable def lF41 : Ln PV := (Classical.choose (exT fi41 (fin cfg fi41))).2
theorem T41 : Tied cfg W fi41 (fin cfg fi41) jF41 lF41 := Classical.choose_spec (exT fi41 (fin cfg fi41))
theorem e_slices_ContainsFunc_api_Val_api_Val (a0 : List PV) (a1 : PV) : wc W n_slices_ContainsFunc_api_Val_api_Val [(PV.slice 3 a0), a1] =
  (((wc W n_slices_IndexFunc_api_Val_api_Val [(PV.slice 3 a0), a1])).bind (fun v1 => (c_i64 v1 (fun v2 => (some (PV.bool (decide (GE.ge v2 (0 : Int))))))))) := go (by kernel_rfl) (by kernel_rfl) T41 (by kernel_rfl)
noncomputable def jF43 : Jn PV := (Classical.choose (exT fi43 (fin cfg fi43))).1
noncomputable def lF43 : Ln PV := (Classical.choose (exT fi43 (fin cfg fi43))).2
theorem T43 : Tied cfg W fi43 (fin cfg fi43) jF43 lF43 := Classical.choose_spec (exT fi43 (fin cfg fi43))
noncomputable def L_slices_stableCmpFunc_api_Val_1 (l1 : List PV) (i2 : Int) (p3 : PV) (i4 : Int) (i5 : Int) (i6 : Int) : Option PV := lF43 [0, 0, 1, 1] 0 (St.mk [(0, (AV.pv (PV.slice 0 l1))), (1, (AV.pv (PV.int .i64 i2))), (2, (AV.pv p3)), (6, (AV.pv (PV.int .i64 i4))), (7, (AV.pv (PV.int .i64 i5))), (8, (AV.pv (PV.int .i64 i6)))] [])
noncomputable def L_slices_stableCmpFunc_api_Val_2 (l9 : List PV) (i10 : Int) (p11 : PV) (i12 : Int) : Option PV := lF43 [0, 1, 1, 1, 1] 0 (St.mk [(0, (AV.pv (PV.slice 0 l9))), (1, (AV.pv (PV.int .i64 i10))), (2, (AV.pv p11)), (6, (AV.pv (PV.int .i64 i12)))] [])
noncomputable def L_slices_stableCmpFunc_api_Val_3 (l13 : List PV) (i14 : Int) (p15 : PV) (i16 : Int) (i17 : Int) (i18 : Int) : Option PV := lF43 [0, 0, 1, 0, 1, 0, 0, 1, 1, 1, 1] 0 (St.mk [(0, (AV.pv (PV.slice 0 l13))), (1, (AV.pv (PV.int .i64 i14))), (2, (AV.pv p15)), (6, (AV.pv (PV.int .i64 i16))), (7, (AV.pv (PV.int .i64 i17))), (8, (AV.pv (PV.int .i64 i18)))] [])
theorem L_slices_stableCmpFunc_api_Val_1_eq (l1 : List PV) (i2 : Int) (p3 : PV) (i4 : Int) (i5 : Int) (i6 : Int) : L_slices_stableCmpFunc_api_Val_1 l1 i2 p3 i4 i5 i6 =
  (bif (decide (i6 ≤ i2)) then (((wc W n_slices_insertionSortCmpFunc_api_Val [(PV.slice 0 l1), (PV.int .i64 i5), (PV.int .i64 i6), p3])).bind (fun v7 => (L_slices_stableCmpFunc_api_Val_1 l1 i2 p3 i4 i6 (IntKind.wrap .i64 (i6 + i4 : Int))))) else (((wc W n_slices_insertionSortCmpFunc_api_Val [(PV.slice 0 l1), (PV.int .i64 i5), (PV.int .i64 i2), p3])).bind (fun v8 => (L_slices_stableCmpFunc_api_Val_2 l1 i2 p3 i4)))) := (T43.loop [1, 1, 0, 0] 0 _ rfl).trans (by kernel_rfl)
theorem L_slices_stableCmpFunc_api_Val_2_eq (l9 : List PV) (i10 : Int) (p11 : PV) (i12 : Int) : L_slices_stableCmpFunc_api_Val_2 l9 i10 p11 i12 =
  (bif (decide (i12 < i10)) then (L_slices_stableCmpFunc_api_Val_3 l9 i10 p11 i12 (0 : Int) (IntKind.wrap .i64 ((2 : Int) * i12 : Int))) else (some (PV.tup []))) := (T43.loop [1, 1, 1, 1, 0] 0 _ rfl).trans (by kernel_rfl)
theorem L_slices_stableCmpFunc_api_Val_3_eq (l13 : List PV) (i14 : Int) (p15 : PV) (i16 : Int) (i17 : Int) (i18 : Int) : L_slices_stableCmpFunc_api_Val_3 l13 i14 p15 i16 i17 i18 =
  (bif (decide (i18 ≤ i14)) then (((wc W n_slices_symMergeCmpFunc_api_Val [(PV.slice 0 l13), (PV.int .i64 i17), (PV.int .i64 (IntKind.wrap .i64 (i17 + i16 : Int))), (PV.int .i64 i18), p15])).bind (fun v19 => (L_slices_stableCmpFunc_api_Val_3 l13 i14 p15 i16 i18 (IntKind.wrap .i64 (i18 + (IntKind.wrap .i64 ((2 : Int) * i16 : Int)) : Int))))) else (bif (decide ((IntKind.wrap .i64 (i17 + i16 : Int)) < i14)) then (((wc W n_slices_symMergeCmpFunc_api_Val [(PV.slice 0 l13), (PV.int .i64 i17), (PV.int .i64 (IntKind.wrap .i64 (i17 + i16 : Int))), (PV.int .i64 i14), p15])).bind (fun v20 => (L_slices_stableCmpFunc_api_Val_2 l13 i14 p15 (IntKind.wrap .i64 (i16 * (2 : Int) : Int))))) else (L_slices_stableCmpFunc_api_Val_2 l13 i14 p15 (IntKind.wrap .i64 (i16 * (2 : Int) : Int))))) := (T43.loop [1, 1, 1, 1, 0, 0, 1, 0, 1, 0, 0] 0 _ rfl).trans (by kernel_rfl)
theorem e_slices_stableCmpFunc_api_Val (a0 : List PV) (a1 : Int) (a2 : PV) : wc W n_slices_stableCmpFunc_api_Val [(PV.slice 0 a0), (PV.int .i64 a1), a2] =
  (L_slices_stableCmpFunc_api_Val_1 a0 a1 a2 (20 : Int) (0 : Int) (20 : Int)) := go (by kernel_rfl) (by kernel_rfl) T43 (by kernel_rfl)
noncomputable def jF43o2 : Jn (AV × List Ob) := (Classical.choose (exT fi43 (finO cfg fi43 false 2))).1
noncomputable def lF43o2 : Ln (AV × List Ob) := (Classical.choose (exT fi43 (finO cfg fi43 false 2))).2
theorem T43o2 : Tied cfg W fi43 (finO cfg fi43 false 2) jF43o2 lF43o2 := Classical.choose_spec (exT fi43 (finO cfg fi43 false 2))
noncomputable def L_slices_stableCmpFunc_api_Val_o2_1 (i1 : Int) (i2 : Int) (i3 : Int) (i4 : Int) (l5 : List PV) (i6 : Int) : Option (AV × List Ob) := lF43o2 [0, 0, 1, 1] 2 (St.mk [(0, (AV.fx 0 0)), (1, (AV.pv (PV.int .i64 i1))), (2, (AV.fnv n_bag_Sort_2 [] [(AV.own 1 0)])), (6, (AV.pv (PV.int .i64 i2))), (7, (AV.pv (PV.int .i64 i3))), (8, (AV.pv (PV.int .i64 i4)))] [(Ob.fix 0 0 l5), (Ob.var false 0 (AV.pv (PV.int .i64 i6)))])
noncomputable def L_slices_stableCmpFunc_api_Val_o2_2 (i23 : Int) (i24 : Int) (l25 : List PV) (i26 : Int) : Option (AV × List Ob) := lF43o2 [0, 1, 1, 1, 1] 2 (St.mk [(0, (AV.fx 0 0)), (1, (AV.pv (PV.int .i64 i23))), (2, (AV.fnv n_bag_Sort_2 [] [(AV.own 1 0)])), (6, (AV.pv (PV.int .i64 i24)))] [(Ob.fix 0 0 l25), (Ob.var false 0 (AV.pv (PV.int .i64 i26)))])
noncomputable def L_slices_stableCmpFunc_api_Val_o2_3 (i27 : Int) (i28 : Int) (i29 : Int) (i30 : Int) (l31 : List PV) (i32 : Int) : Option (AV × List Ob) := lF43o2 [0, 0, 1, 0, 1, 2, 0, 1, 1, 1, 1] 2 (St.mk [(0, (AV.fx 0 0)), (1, (AV.pv (PV.int .i64 i27))), (2, (AV.fnv n_bag_Sort_2 [] [(AV.own 1 0)])), (6, (AV.pv (PV.int .i64 i28))), (7, (AV.pv (PV.int .i64 i29))), (8, (AV.pv (PV.int .i64 i30)))] [(Ob.fix 0 0 l31), (Ob.var false 0 (AV.pv (PV.int .i64 i32)))])
theorem L_slices_stableCmpFunc_api_Val_o2_1_eq (i1 : Int) (i2 : Int) (i3 : Int) (i4 : Int) (l5 : List PV) (i6 : Int) : L_slices_stableCmpFunc_api_Val_o2_1 i1 i2 i3 i4 l5 i6 =
  (bif (decide (i4 ≤ i1)) then (((W n_slices_insertionSortCmpFunc_api_Val false [(AV.fx 0 0), (AV.pv (PV.int .i64 i3)), (AV.pv (PV.int .i64 i4)), (AV.fnv n_bag_Sort_2 [] [(AV.own 1 0)])] [(Ob.fix 0 0 l5), (Ob.var false 0 (AV.pv (PV.int .i64 i6)))])).bind (fun v11 => (k_c4d914 v11 (fun v12 v13 v14 => (L_slices_stableCmpFunc_api_Val_o2_1 i1 i2 i4 (IntKind.wrap .i64 (i4 + i2 : Int)) v13 v14))))) else (((W n_slices_insertionSortCmpFunc_api_Val false [(AV.fx 0 0), (AV.pv (PV.int .i64 i3)), (AV.pv (PV.int .i64 i1)), (AV.fnv n_bag_Sort_2 [] [(AV.own 1 0)])] [(Ob.fix 0 0 l5), (Ob.var false 0 (AV.pv (PV.int .i64 i6)))])).bind (fun v19 => (k_c4d914 v19 (fun v20 v21 v22 => (L_slices_stableCmpFunc_api_Val_o2_2 i1 i2 v21 v22)))))) := (T43o2.loop [1, 1, 0, 0] 2 _ rfl).trans (by kernel_rfl)
theorem L_slices_stableCmpFunc_api_Val_o2_2_eq (i23 : Int) (i24 : Int) (l25 : List PV) (i26 : Int) : L_slices_stableCmpFunc_api_Val_o2_2 i23 i24 l25 i26 =
  (bif (decide (i24 < i23)) then (L_slices_stableCmpFunc_api_Val_o2_3 i23 i24 (0 : Int) (IntKind.wrap .i64 ((2 : Int) * i24 : Int)) l25 i26) else (some ((AV.pv (PV.tup [])), [(Ob.fix 0 0 l25), (Ob.var false 0 (AV.pv (PV.int .i64 i26)))]))) := (T43o2.loop [1, 1, 1, 1, 0] 2 _ rfl).trans (by kernel_rfl)
theorem L_slices_stableCmpFunc_api_Val_o2_3_eq (i27 : Int) (i28 : Int) (i29 : Int) (i30 : Int) (l31 : List PV) (i32 : Int) : L_slices_stableCmpFunc_api_Val_o2_3 i27 i28 i29 i30 l31 i32 =
  (bif (decide (i30 ≤ i27)) then (((W n_slices_symMergeCmpFunc_api_Val false [(AV.fx 0 0), (AV.pv (PV.int .i64 i29)), (AV.pv (PV.int .i64 (IntKind.wrap .i64 (i29 + i28 : Int)))), (AV.pv (PV.int .i64 i30)), (AV.fnv n_bag_Sort_2 [] [(AV.own 1 0)])] [(Ob.fix 0 0 l31), (Ob.var false 0 (AV.pv (PV.int .i64 i32)))])).bind (fun v38 => (k_c4d914 v38 (fun v39 v40 v41 => (L_slices_stableCmpFunc_api_Val_o2_3 i27 i28 i30 (IntKind.wrap .i64 (i30 + (IntKind.wrap .i64 ((2 : Int) * i28 : Int)) : Int)) v40 v41))))) else (bif (decide ((IntKind.wrap .i64 (i29 + i28 : Int)) < i27)) then (((W n_slices_symMergeCmpFunc_api_Val false [(AV.fx 0 0), (AV.pv (PV.int .i64 i29)), (AV.pv (PV.int .i64 (IntKind.wrap .i64 (i29 + i28 : Int)))), (AV.pv (PV.int .i64 i27)), (AV.fnv n_bag_Sort_2 [] [(AV.own 1 0)])] [(Ob.fix 0 0 l31), (Ob.var false 0 (AV.pv (PV.int .i64 i32)))])).bind (fun v47 => (k_c4d914 v47 (fun v48 v49 v50 => (L_slices_stableCmpFunc_api_Val_o2_2 i27 (IntKind.wrap .i64 (i28 * (2 : Int) : Int)) v49 v50))))) else (L_slices_stableCmpFunc_api_Val_o2_2 i27 (IntKind.wrap .i64 (i28 * (2 : Int) : Int)) l31 i32))) := (T43o2.loop [1, 1, 1, 1, 0, 2, 1, 0, 1, 0, 0] 2 _ rfl).trans (by kernel_rfl)
theorem o_slices_stableCmpFunc_api_Val_o2_1 (i0 : Int) (l1 : List PV) (i2 : Int) : W n_slices_stableCmpFunc_api_Val false [(AV.fx 0 0), (AV.pv (PV.int .i64 i0)), (AV.fnv n_bag_Sort_2 [] [(AV.own 1 0)])] [(Ob.fix 0 0 l1), (Ob.var false 0 (AV.pv (PV.int .i64 i2)))] =
  (L_slices_stableCmpFunc_api_Val_o2_1 i0 (20 : Int) (0 : Int) (20 : Int) l1 i2) := goO (by kernel_rfl) (by kernel_rfl) T43o2 rfl (by kernel_rfl)
noncomputable def jF44 : Jn PV := (Classical.choose (exT fi44 (fin cfg fi44))).1
noncomputable def lF44 : Ln PV := (Classical.choose (exT fi44 (fin cfg fi44))).2
theorem T44 : Tied cfg W fi44 (fin cfg fi44) jF44 lF44 := Classical.choose_spec (exT fi44 (fin cfg fi44))
noncomputable def L_slices_Compare_int_int_1 (l1 : List PV) (l2 : List PV) (l3 : List PV) (i4 : Int) (i5 : Int) : Option PV := lF44 [0, 1, 0, 1] 0 (St.mk [(0, (AV.pv (PV.slice 0 l1))), (1, (AV.pv (PV.slice 0 l2))), (9, (AV.pv (PV.slice 0 l3))), (10, (AV.pv (PV.int .i64 i4))), (11, (AV.pv (PV.int .i64 i5)))] [])
theorem L_slices_Compare_int_int_1_eq (l1 : List PV) (l2 : List PV) (l3 : List PV) (i4 : Int) (i5 : Int) : L_slices_Compare_int_int_1 l1 l2 l3 i4 i5 =
  (bif (decide (i5 < i4)) then (bif (decide ((0 : Int) ≤ i5)) then (((l3)[(Int.toNat i5)]?).bind (fun v6 => (c_i64 v6 (fun v7 => (bif (decide (GE.ge i5 (((List.length l2) : Nat) : Int))) then (some (PV.int .i64 (1 : Int))) else (bif (decide ((0 : Int) ≤ i5)) then (((l2)[(Int.toNat i5)]?).bind (fun v8 => (c_i64 v8 (fun v9 => (((wc W n_cmp_Compare_int [(PV.int .i64 v7), (PV.int .i64 v9)])).bind (fun v10 => (c_i64 v10 (fun v11 => (bif (v11 != (0 : Int)) then (some (PV.int .i64 v11)) else (L_slices_Compare_int_int_1 l1 l2 l3 i4 (IntKind.wrap .i64 (i5 + (1 : Int) : Int)))))))))))) else none)))))) else none) else (bif (decide ((((List.length l1) : Nat) : Int) < (((List.length l2) : Nat) : Int))) then (some (PV.int .i64 (-1 : Int))) else (some (PV.int .i64 (0 : Int))))) := (T44.loop [1, 0, 1, 0] 0 _ rfl).trans (by kernel_rfl)
theorem e_slices_Compare_int_int (a0 : List PV) (a1 : List PV) : wc W n_slices_Compare_int_int [(PV.slice 0 a0), (PV.slice 0 a1)] =
  (L_slices_Compare_int_int_1 a0 a1 a0 (((List.length a0) : Nat) : Int) (0 : Int)) := go (by kernel_rfl) (by kernel_rfl) T44 (by kernel_rfl)
noncomputable def jF48 : Jn PV := (Classical.choose (exT fi48 (fin cfg fi48))).1
noncomputable def lF48 : Ln PV := (Classical.choose (exT fi48 (fin cfg fi48))).2
theorem T48 : Tied cfg W fi48 (fin cfg fi48) jF48 lF48 := Classical.choose_spec (exT fi48 (fin cfg fi48))
noncomputable def J_slices_Grow_int_int_1 (l1 : List PV) (i2 : Int) (l3 : List PV) : Option PV := jF48 [1, 1] (St.mk [(0, (AV.pv (PV.slice 0 l1))), (1, (AV.pv (PV.int .i64 i2)))] [(Ob.row false 0 0 l3)])
theorem J_slices_Grow_int_int_1_eq (l1 : List PV) (i2 : Int) (l3 : List PV) : J_slices_Grow_int_int_1 l1 i2 l3 =
  none := (T48.join [1, 1] _).trans (by kernel_rfl)
theorem e_slices_Grow_int_int (a0 : List PV) (a1 : Int) : wc W n_slices_Grow_int_int [(PV.slice 0 a0), (PV.int .i64 a1)] =
  (bif (decide (a1 < (0 : Int))) then none else (J_slices_Grow_int_int_1 a0 a1 [])) := go (by kernel_rfl) (by kernel_rfl) T48 (by kernel_rfl)
noncomputable def jF48r0 : Jn (AV × List Ob) := (Classical.choose (exT fi48 (finO cfg fi48 true 0))).1
noncomputable def lF48r0 : Ln (AV × List Ob) := (Classical.choose (exT fi48 (finO cfg fi48 true 0))).2
theorem T48r0 : Tied cfg W fi48 (finO cfg fi48 true 0) jF48r0 lF48r0 := Classical.choose_spec (exT fi48 (finO cfg fi48 true 0))
noncomputable def J_slices_Grow_int_int_r0_1 (i1 : Int) (l2 : List PV) : Option (AV × List Ob) := jF48r0 [1, 1] (St.mk [(0, (AV.nil 0)), (1, (AV.pv (PV.int .i64 i1)))] [(Ob.row false 0 0 l2)])
theorem J_slices_Grow_int_int_r0_1_eq (i1 : Int) (l2 : List PV) : J_slices_Grow_int_int_r0_1 i1 l2 =
  (bif (decide (GT.gt (IntKind.wrap .i64 (i1 - (0 : Int) : Int)) (0 : Int))) then (bif ((((decide ((0 : Int) < (IntKind.wrap .i64 (i1 - (0 : Int) : Int)))) && (decide ((IntKind.wrap .i64 (i1 - (0 : Int) : Int)) ≤ (4294967296 : Int)))) && true) && true) then (some ((AV.view 0 0 none), [(Ob.row false 0 0 [])])) else none) else (some ((AV.view 0 0 none), [(Ob.row false 0 0 [])]))) := (T48r0.join [1, 1] _).trans (by kernel_rfl)
theorem o_slices_Grow_int_int_r0_1 (i0 : Int) : W n_slices_Grow_int_int true [(AV.nil 0), (AV.pv (PV.int .i64 i0))] [] =
  (bif (decide (i0 < (0 : Int))) then none else (J_slices_Grow_int_int_r0_1 i0 [])) := goO (by kernel_rfl) (by kernel_rfl) T48r0 rfl (by kernel_rfl)
noncomputable def jF49 : Jn PV := (Classical.choose (exT fi49 (fin cfg fi49))).1
noncomputable def lF49 : Ln PV := (Classical.choose (exT fi49 (fin cfg fi49))).2
theorem T49 : Tied cfg W fi49 (fin cfg fi49) jF49 lF49 := Classical.choose_spec (exT fi49 (fin cfg fi49))
noncomputable def J_slices_Grow_api_Val_api_Val_1 (l1 : List PV) (i2 : Int) (l3 : List PV) : Option PV := jF49 [1, 1] (St.mk [(0, (AV.pv (PV.slice 3 l1))), (1, (AV.pv (PV.int .i64 i2)))] [(Ob.row false 0 3 l3)])
theorem J_slices_Grow_api_Val_api_Val_1_eq (l1 : List PV) (i2 : Int) (l3 : List PV) : J_slices_Grow_api_Val_api_Val_1 l1 i2 l3 =
  none := (T49.join [1, 1] _).trans (by kernel_rfl)
theorem e_slices_Grow_api_Val_api_Val (a0 : List PV) (a1 : Int) : wc W n_slices_Grow_api_Val_api_Val [(PV.slice 3 a0), (PV.int .i64 a1)] =
  (bif (decide (a1 < (0 : Int))) then none else (J_slices_Grow_api_Val_api_Val_1 a0 a1 [])) := go (by kernel_rfl) (by kernel_rfl) T49 (by kernel_rfl)
noncomputable def jF49r0 : Jn (AV × List Ob) := (Classical.choose (exT fi49 (finO cfg fi49 true 0))).1
noncomputable def lF49r0 : Ln (AV × List Ob) := (Classical.choose (exT fi49 (finO cfg fi49 true 0))).2
theorem T49r0 : Tied cfg W fi49 (finO cfg fi49 true 0) jF49r0 lF49r0 := Classical.choose_spec (exT fi49 (finO cfg fi49 true 0))
noncomputable def J_slices_Grow_api_Val_api_Val_r0_1 (i1 : Int) (l2 : List PV) : Option (AV × List Ob) := jF49r0 [1, 1] (St.mk [(0, (AV.nil 3)), (1, (AV.pv (PV.int .i64 i1)))] [(Ob.row false 0 3 l2)])
theorem J_slices_Grow_api_Val_api_Val_r0_1_eq (i1 : Int) (l2 : List PV) : J_slices_Grow_api_Val_api_Val_r0_1 i1 l2 =
  (bif (decide (GT.gt (IntKind.wrap .i64 (i1 - (0 : Int) : Int)) (0 : Int))) then (bif ((((decide ((0 : Int) < (IntKind.wrap .i64 (i1 - (0 : Int) : Int)))) && (decide ((IntKind.wrap .i64 (i1 - (0 : Int) : Int)) ≤ (4294967296 : Int)))) && true) && true) then (some ((AV.view 0 0 none), [(Ob.row false 0 3 [])])) else none) else (some ((AV.view 0 0 none), [(Ob.row false 0 3 [])]))) := (T49r0.join [1, 1] _).trans (by kernel_rfl)
theorem o_slices_Grow_api_Val_api_Val_r0_1 (i0 : Int) : W n_slices_Grow_api_Val_api_Val true [(AV.nil 3), (AV.pv (PV.int .i64 i0))] [] =
  (bif (decide (i0 < (0 : Int))) then none else (J_slices_Grow_api_Val_api_Val_r0_1 i0 [])) := goO (by kernel_rfl) (by kernel_rfl) T49r0 rfl (by kernel_rfl)
noncomputable def jF58 : Jn PV := (Classical.choose (exT fi58 (fin cfg fi58))).1
noncomputable def lF58 : Ln PV := (Classical.choose (exT fi58 (fin cfg fi58))).2
theorem T58 : Tied cfg W fi58 (fin cfg fi58) jF58 lF58 := Classical.choose_spec (exT fi58 (fin cfg fi58))
noncomputable def L_slices_IndexFunc_api_Val_api_Val_1 (l1 : List PV) (p2 : PV) (i3 : Int) (i4 : Int) : Option PV := lF58 [0, 1, 0, 1] 0 (St.mk [(0, (AV.pv (PV.slice 3 l1))), (1, (AV.pv p2)), (7, (AV.pv (PV.int .i64 i3))), (8, (AV.pv (PV.int .i64 i4)))] [])
theorem L_slices_IndexFunc_api_Val_api_Val_1_eq (l1 : List PV) (p2 : PV) (i3 : Int) (i4 : Int) : L_slices_IndexFunc_api_Val_api_Val_1 l1 p2 i3 i4 =
  (bif (decide (i4 < i3)) then (bif (decide ((0 : Int) ≤ i4)) then (((l1)[(Int.toNat i4)]?).bind (fun v5 => (c_g_i64_i64 v5 (fun v6 v7 => (((PV.asFn p2)).bind (fun v8 => (((wc W (Prod.fst v8) (((Prod.fst (Prod.snd v8)) ++ [(PV.agg [(PV.int .i64 v6), (PV.int .i64 v7)])]) ++ (Prod.snd (Prod.snd v8))))).bind (fun v9 => (c_b v9 (fun v10 => (bif v10 then (some (PV.int .i64 i4)) else (L_slices_IndexFunc_api_Val_api_Val_1 l1 p2 i3 (IntKind.wrap .i64 (i4 + (1 : Int) : Int)))))))))))))) else none) else (some (PV.int .i64 (-1 : Int)))) := (T58.loop [1, 0, 1, 0] 0 _ rfl).trans (by kernel_rfl)
theorem e_slices_IndexFunc_api_Val_api_Val (a0 : List PV) (a1 : PV) : wc W n_slices_IndexFunc_api_Val_api_Val [(PV.slice 3 a0), a1] =
  (L_slices_IndexFunc_api_Val_api_Val_1 a0 a1 (((List.length a0) : Nat) : Int) (0 : Int)) := go (by kernel_rfl) (by kernel_rfl) T58 (by kernel_rfl)
noncomputable def jF59 : Jn PV := (Classical.choose (exT fi59 (fin cfg fi59))).1
noncomputable def lF59 : Ln PV := (Classical.choose (exT fi59 (fin cfg fi59))).2
theorem T59 : Tied cfg W fi59 (fin cfg fi59) jF59 lF59 := Classical.choose_spec (exT fi59 (fin cfg fi59))
noncomputable def L_slices_insertionSortCmpFunc_api_Val_1 (l1 : List PV) (i2 : Int) (i3 : Int) (p4 : PV) (i5 : Int) : Option PV := lF59 [0, 1] 0 (St.mk [(0, (AV.pv (PV.slice 0 l1))), (1, (AV.pv (PV.int .i64 i2))), (2, (AV.pv (PV.int .i64 i3))), (3, (AV.pv p4)), (8, (AV.pv (PV.int .i64 i5)))] [])
noncomputable def L_slices_insertionSortCmpFunc_api_Val_2 (l6 : List PV) (i7 : Int) (i8 : Int) (p9 : PV) (i10 : Int) (i11 : Int) : Option PV := lF59 [0, 1, 0, 0, 1, 0, 0, 1] 0 (St.mk [(0, (AV.pv (PV.slice 0 l6))), (1, (AV.pv (PV.int .i64 i7))), (2, (AV.pv (PV.int .i64 i8))), (3, (AV.pv p9)), (8, (AV.pv (PV.int .i64 i10))), (9, (AV.pv (PV.int .i64 i11)))] [])
noncomputable def J_slices_insertionSortCmpFunc_api_Val_3 (l19 : List PV) (i20 : Int) (i21 : Int) (p22 : PV) (i23 : Int) (i24 : Int) : Option PV := jF59 [1, 0, 0, 1, 0, 0, 1, 0, 0, 1] (St.mk [(0, (AV.pv (PV.slice 0 l19))), (1, (AV.pv (PV.int .i64 i20))), (2, (AV.pv (PV.int .i64 i21))), (3, (AV.pv p22)), (8, (AV.pv (PV.int .i64 i23))), (9, (AV.pv (PV.int .i64 i24)))] [])
theorem L_slices_insertionSortCmpFunc_api_Val_1_eq (l1 : List PV) (i2 : Int) (i3 : Int) (p4 : PV) (i5 : Int) : L_slices_insertionSortCmpFunc_api_Val_1 l1 i2 i3 p4 i5 =
  (bif (decide (i5 < i3)) then (L_slices_insertionSortCmpFunc_api_Val_2 l1 i2 i3 p4 i5 i5) else (some (PV.tup []))) := (T59.loop [1, 0] 0 _ rfl).trans (by kernel_rfl)
theorem L_slices_insertionSortCmpFunc_api_Val_2_eq (l6 : List PV) (i7 : Int) (i8 : Int) (p9 : PV) (i10 : Int) (i11 : Int) : L_slices_insertionSortCmpFunc_api_Val_2 l6 i7 i8 p9 i10 i11 =
  (bif (decide (GT.gt i11 i7)) then (bif (decide ((0 : Int) ≤ i11)) then (((l6)[(Int.toNat i11)]?).bind (fun v12 => (c_s3 v12 (fun v13 => (bif (decide ((0 : Int) ≤ (IntKind.wrap .i64 (i11 - (1 : Int) : Int)))) then (((l6)[(Int.toNat (IntKind.wrap .i64 (i11 - (1 : Int) : Int)))]?).bind (fun v14 => (c_s3 v14 (fun v15 => (((PV.asFn p9)).bind (fun v16 => (((wc W (Prod.fst v16) (((Prod.fst (Prod.snd v16)) ++ [(PV.slice 3 v13), (PV.slice 3 v15)]) ++ (Prod.snd (Prod.snd v16))))).bind (fun v17 => (c_i64 v17 (fun v18 => (bif (decide (v18 < (0 : Int))) then (J_slices_insertionSortCmpFunc_api_Val_3 l6 i7 i8 p9 i10 i11) else (L_slices_insertionSortCmpFunc_api_Val_1 l6 i7 i8 p9 (IntKind.wrap .i64 (i10 + (1 : Int) : Int)))))))))))))) else none))))) else none) else (L_slices_insertionSortCmpFunc_api_Val_1 l6 i7 i8 p9 (IntKind.wrap .i64 (i10 + (1 : Int) : Int)))) := (T59.loop [1, 0, 0, 1, 0, 0, 1, 0] 0 _ rfl).trans (by kernel_rfl)
theorem J_slices_insertionSortCmpFunc_api_Val_3_eq (l19 : List PV) (i20 : Int) (i21 : Int) (p22 : PV) (i23 : Int) (i24 : Int) : J_slices_insertionSortCmpFunc_api_Val_3 l19 i20 i21 p22 i23 i24 =
  (bif (decide ((0 : Int) ≤ (IntKind.wrap .i64 (i24 - (1 : Int) : Int)))) then (((l19)[(Int.toNat (IntKind.wrap .i64 (i24 - (1 : Int) : Int)))]?).bind (fun v25 => (c_s3 v25 (fun v26 => (bif (decide ((0 : Int) ≤ i24)) then (((l19)[(Int.toNat i24)]?).bind (fun v27 => (c_s3 v27 (fun v28 => (bif (decide ((0 : Int) ≤ i24)) then (((l19)[(Int.toNat i24)]?).bind (fun v29 => none)) else none))))) else none))))) else none) := (T59.join [1, 0, 0, 1, 0, 0, 1, 0, 0, 1] _).trans (by kernel_rfl)
theorem e_slices_insertionSortCmpFunc_api_Val (a0 : List PV) (a1 : Int) (a2 : Int) (a3 : PV) : wc W n_slices_insertionSortCmpFunc_api_Val [(PV.slice 0 a0), (PV.int .i64 a1), (PV.int .i64 a2), a3] =
  (L_slices_insertionSortCmpFunc_api_Val_1 a0 a1 a2 a3 (IntKind.wrap .i64 (a1 + (1 : Int) : Int))) := go (by kernel_rfl) (by kernel_rfl) T59 (by kernel_rfl)
noncomputable def jF59o2 : Jn (AV × List Ob) := (Classical.choose (exT fi59 (finO cfg fi59 false 2))).1
noncomputable def lF59o2 : Ln (AV × List Ob) := (Classical.choose (exT fi59 (finO cfg fi59 false 2))).2
theorem T59o2 : Tied cfg W fi59 (finO cfg fi59 false 2) jF59o2 lF59o2 := Classical.choose_spec (exT fi59 (finO cfg fi59 false 2))
noncomputable def L_slices_insertionSortCmpFunc_api_Val_o2_1 (i1 : Int) (i2 : Int) (i3 : Int) (l4 : List PV) (i5 : Int) : Option (AV × List Ob) := lF59o2 [0, 1] 2 (St.mk [(0, (AV.fx 0 0)), (1, (AV.pv (PV.int .i64 i1))), (2, (AV.pv (PV.int .i64 i2))), (3, (AV.fnv n_bag_Sort_2 [] [(AV.own 1 0)])), (8, (AV.pv (PV.int .i64 i3)))] [(Ob.fix 0 0 l4), (Ob.var false 0 (AV.pv (PV.int .i64 i5)))])
noncomputable def L_slices_insertionSortCmpFunc_api_Val_o2_2 (i6 : Int) (i7 : Int) (i8 : Int) (i9 : Int) (l10 : List PV) (i11 : Int) : Option (AV × List Ob) := lF59o2 [0, 1, 0, 0, 1, 2, 0, 1] 2 (St.mk [(0, (AV.fx 0 0)), (1, (AV.pv (PV.int .i64 i6))), (2, (AV.pv (PV.int .i64 i7))), (3, (AV.fnv n_bag_Sort_2 [] [(AV.own 1 0)])), (8, (AV.pv (PV.int .i64 i8))), (9, (AV.pv (PV.int .i64 i9)))] [(Ob.fix 0 0 l10), (Ob.var false 0 (AV.pv (PV.int .i64 i11)))])
noncomputable def J_slices_insertionSortCmpFunc_api_Val_o2_3 (i23 : Int) (i24 : Int) (i25 : Int) (i26 : Int) (l27 : List PV) (i28 : Int) : Option (AV × List Ob) := jF59o2 [1, 2, 0, 1, 0, 0, 1, 2, 0, 1] (St.mk [(0, (AV.fx 0 0)), (1, (AV.pv (PV.int .i64 i23))), (2, (AV.pv (PV.int .i64 i24))), (3, (AV.fnv n_bag_Sort_2 [] [(AV.own 1 0)])), (8, (AV.pv (PV.int .i64 i25))), (9, (AV.pv (PV.int .i64 i26)))] [(Ob.fix 0 0 l27), (Ob.var false 0 (AV.pv (PV.int .i64 i28)))])
theorem L_slices_insertionSortCmpFunc_api_Val_o2_1_eq (i1 : Int) (i2 : Int) (i3 : Int) (l4 : List PV) (i5 : Int) : L_slices_insertionSortCmpFunc_api_Val_o2_1 i1 i2 i3 l4 i5 =
  (bif (decide (i3 < i2)) then (L_slices_insertionSortCmpFunc_api_Val_o2_2 i1 i2 i3 i3 l4 i5) else (some ((AV.pv (PV.tup [])), [(Ob.fix 0 0 l4), (Ob.var false 0 (AV.pv (PV.int .i64 i5)))]))) := (T59o2.loop [1, 0] 2 _ rfl).trans (by kernel_rfl)
theorem L_slices_insertionSortCmpFunc_api_Val_o2_2_eq (i6 : Int) (i7 : Int) (i8 : Int) (i9 : Int) (l10 : List PV) (i11 : Int) : L_slices_insertionSortCmpFunc_api_Val_o2_2 i6 i7 i8 i9 l10 i11 =
  (bif (decide (GT.gt i9 i6)) then (bif ((true && (decide ((0 : Int) ≤ i9))) && (decide (i9 < (((List.length l10) : Nat) : Int)))) then (((l10)[(Int.toNat i9)]?).bind (fun v12 => (c_s3 v12 (fun v13 => (bif ((true && (decide ((0 : Int) ≤ (IntKind.wrap .i64 (i9 - (1 : Int) : Int))))) && (decide ((IntKind.wrap .i64 (i9 - (1 : Int) : Int)) < (((List.length l10) : Nat) : Int)))) then (((l10)[(Int.toNat (IntKind.wrap .i64 (i9 - (1 : Int) : Int)))]?).bind (fun v14 => (c_s3 v14 (fun v15 => (((W n_bag_Sort_2 false [(AV.pv (PV.slice 3 v13)), (AV.pv (PV.slice 3 v15)), (AV.own 0 0)] [(Ob.var false 0 (AV.pv (PV.int .i64 i11)))])).bind (fun v19 => (k_5b106d v19 (fun v20 v21 => (c_i64 v20 (fun v22 => (bif (decide (v22 < (0 : Int))) then (J_slices_insertionSortCmpFunc_api_Val_o2_3 i6 i7 i8 i9 l10 v21) else (L_slices_insertionSortCmpFunc_api_Val_o2_1 i6 i7 (IntKind.wrap .i64 (i8 + (1 : Int) : Int)) l10 v21)))))))))))) else none))))) else none) else (L_slices_insertionSortCmpFunc_api_Val_o2_1 i6 i7 (IntKind.wrap .i64 (i8 + (1 : Int) : Int)) l10 i11)) := (T59o2.loop [1, 0, 2, 1, 0, 0, 1, 0] 2 _ rfl).trans (by kernel_rfl)
theorem J_slices_insertionSortCmpFunc_api_Val_o2_3_eq (i23 : Int) (i24 : Int) (i25 : Int) (i26 : Int) (l27 : List PV) (i28 : Int) : J_slices_insertionSortCmpFunc_api_Val_o2_3 i23 i24 i25 i26 l27 i28 =
  (bif ((true && (decide ((0 : Int) ≤ (IntKind.wrap .i64 (i26 - (1 : Int) : Int))))) && (decide ((IntKind.wrap .i64 (i26 - (1 : Int) : Int)) < (((List.length l27) : Nat) : Int)))) then (((l27)[(Int.toNat (IntKind.wrap .i64 (i26 - (1 : Int) : Int)))]?).bind (fun v29 => (c_s3 v29 (fun v30 => (bif ((true && (decide ((0 : Int) ≤ i26))) && (decide (i26 < (((List.length l27) : Nat) : Int)))) then (((l27)[(Int.toNat i26)]?).bind (fun v31 => (c_s3 v31 (fun v32 => (bif ((true && (decide ((0 : Int) ≤ i26))) && (decide (i26 < (((List.length l27) : Nat) : Int)))) then (((l27)[(Int.toNat i26)]?).bind (fun v33 => (bif ((true && (decide ((0 : Int) ≤ (IntKind.wrap .i64 (i26 - (1 : Int) : Int))))) && (decide ((IntKind.wrap .i64 (i26 - (1 : Int) : Int)) < (((List.length (List.set l27 (Int.toNat i26) (PV.slice 3 v30))) : Nat) : Int)))) then ((((List.set l27 (Int.toNat i26) (PV.slice 3 v30)))[(Int.toNat (IntKind.wrap .i64 (i26 - (1 : Int) : Int)))]?).bind (fun v34 => (L_slices_insertionSortCmpFunc_api_Val_o2_2 i23 i24 i25 (IntKind.wrap .i64 (i26 - (1 : Int) : Int)) (List.set (List.set l27 (Int.toNat i26) (PV.slice 3 v30)) (Int.toNat (IntKind.wrap .i64 (i26 - (1 : Int) : Int))) (PV.slice 3 v32)) i28))) else none))) else none))))) else none))))) else none) := (T59o2.join [1, 0, 2, 1, 0, 0, 1, 0, 2, 1] _).trans (by kernel_rfl)
theorem o_slices_insertionSortCmpFunc_api_Val_o2_1 (i0 : Int) (i1 : Int) (l2 : List PV) (i3 : Int) : W n_slices_insertionSortCmpFunc_api_Val false [(AV.fx 0 0), (AV.pv (PV.int .i64 i0)), (AV.pv (PV.int .i64 i1)), (AV.fnv n_bag_Sort_2 [] [(AV.own 1 0)])] [(Ob.fix 0 0 l2), (Ob.var false 0 (AV.pv (PV.int .i64 i3)))] =
  (L_slices_insertionSortCmpFunc_api_Val_o2_1 i0 i1 (IntKind.wrap .i64 (i0 + (1 : Int) : Int)) l2 i3) := goO (by kernel_rfl) (by kernel_rfl) T59o2 rfl (by kernel_rfl)
noncomputable def jF60 : Jn PV := (Classical.choose (exT fi60 (fin cfg fi60))).1
noncomputable def lF60 : Ln PV := (Classical.choose (exT fi60 (fin cfg fi60))).2
theorem T60 : Tied cfg W fi60 (fin cfg fi60) jF60 lF60 := Classical.choose_spec (exT fi60 (fin cfg fi60))
noncomputable def L_slices_symMergeCmpFunc_api_Val_1 (l1 : List PV) (i2 : Int) (p3 : PV) (i4 : Int) (i5 : Int) : Option PV := lF60 [0, 0, 1, 1, 0, 1, 0] 0 (St.mk [(0, (AV.pv (PV.slice 0 l1))), (1, (AV.pv (PV.int .i64 i2))), (4, (AV.pv p3)), (10, (AV.pv (PV.int .i64 i4))), (11, (AV.pv (PV.int .i64 i5)))] [])
noncomputable def L_slices_symMergeCmpFunc_api_Val_2 (l6 : List PV) (i7 : Int) (p8 : PV) (i9 : Int) (i10 : Int) : Option PV := lF60 [0, 0, 1, 1, 0, 1, 0, 1] 0 (St.mk [(0, (AV.pv (PV.slice 0 l6))), (2, (AV.pv (PV.int .i64 i7))), (4, (AV.pv p8)), (14, (AV.pv (PV.int .i64 i9))), (15, (AV.pv (PV.int .i64 i10)))] [])
noncomputable def J_slices_symMergeCmpFunc_api_Val_3 (l11 : List PV) (i12 : Int) (i13 : Int) (i14 : Int) (p15 : PV) (i16 : Int) (i17 : Int) (i18 : Int) (i19 : Int) : Option PV := jF60 [1, 1, 1, 1, 1, 1] (St.mk [(0, (AV.pv (PV.slice 0 l11))), (1, (AV.pv (PV.int .i64 i12))), (2, (AV.pv (PV.int .i64 i13))), (3, (AV.pv (PV.int .i64 i14))), (4, (AV.pv p15)), (18, (AV.pv (PV.int .i64 i16))), (19, (AV.pv (PV.int .i64 i17))), (20, (AV.pv (PV.int .i64 i18))), (21, (AV.pv (PV.int .i64 i19)))] [])
noncomputable def L_slices_symMergeCmpFunc_api_Val_4 (l27 : List PV) (i28 : Int) (i29 : Int) : Option PV := lF60 [0, 1, 0, 1, 1, 1, 0, 1, 0] 0 (St.mk [(0, (AV.pv (PV.slice 0 l27))), (10, (AV.pv (PV.int .i64 i28))), (13, (AV.pv (PV.int .i64 i29)))] [])
noncomputable def L_slices_symMergeCmpFunc_api_Val_5 (l37 : List PV) (i38 : Int) (i39 : Int) : Option PV := lF60 [0, 1, 0, 1, 1, 1, 0, 1, 0, 1] 0 (St.mk [(0, (AV.pv (PV.slice 0 l37))), (14, (AV.pv (PV.int .i64 i38))), (17, (AV.pv (PV.int .i64 i39)))] [])
noncomputable def L_slices_symMergeCmpFunc_api_Val_6 (l40 : List PV) (i41 : Int) (i42 : Int) (i43 : Int) (p44 : PV) (i45 : Int) (i46 : Int) (i47 : Int) (i48 : Int) (i49 : Int) : Option PV := lF60 [0, 0, 1, 1, 1, 1, 1, 1, 1] 0 (St.mk [(0, (AV.pv (PV.slice 0 l40))), (1, (AV.pv (PV.int .i64 i41))), (2, (AV.pv (PV.int .i64 i42))), (3, (AV.pv (PV.int .i64 i43))), (4, (AV.pv p44)), (18, (AV.pv (PV.int .i64 i45))), (19, (AV.pv (PV.int .i64 i46))), (20, (AV.pv (PV.int .i64 i47))), (21, (AV.pv (PV.int .i64 i48))), (22, (AV.pv (PV.int .i64 i49)))] [])
noncomputable def J_slices_symMergeCmpFunc_api_Val_7 (l67 : List PV) (i68 : Int) (i69 : Int) (i70 : Int) (p71 : PV) (i72 : Int) (i73 : Int) (i74 : Int) (b75 : Bool) : Option PV := jF60 [1, 0, 1, 1, 1, 1, 1, 1, 1, 1, 1] (St.mk [(0, (AV.pv (PV.slice 0 l67))), (1, (AV.pv (PV.int .i64 i68))), (2, (AV.pv (PV.int .i64 i69))), (3, (AV.pv (PV.int .i64 i70))), (4, (AV.pv p71)), (18, (AV.pv (PV.int .i64 i72))), (20, (AV.pv (PV.int .i64 i73))), (24, (AV.pv (PV.int .i64 i74))), (185, (AV.pv (PV.bool b75)))] [])
noncomputable def J_slices_symMergeCmpFunc_api_Val_8 (l77 : List PV) (i78 : Int) (i79 : Int) (p80 : PV) (i81 : Int) (i82 : Int) (i83 : Int) : Option PV := jF60 [1, 1, 1, 1, 1, 1, 1, 1, 1, 1] (St.mk [(0, (AV.pv (PV.slice 0 l77))), (1, (AV.pv (PV.int .i64 i78))), (3, (AV.pv (PV.int .i64 i79))), (4, (AV.pv p80)), (18, (AV.pv (PV.int .i64 i81))), (20, (AV.pv (PV.int .i64 i82))), (24, (AV.pv (PV.int .i64 i83)))] [])
noncomputable def J_slices_symMergeCmpFunc_api_Val_9 (l84 : List PV) (i85 : Int) (i86 : Int) (p87 : PV) (i88 : Int) (i89 : Int) (i90 : Int) (b91 : Bool) : Option PV := jF60 [1, 0, 1, 1, 1, 1, 1, 1, 1, 1, 1, 1] (St.mk [(0, (AV.pv (PV.slice 0 l84))), (1, (AV.pv (PV.int .i64 i85))), (3, (AV.pv (PV.int .i64 i86))), (4, (AV.pv p87)), (18, (AV.pv (PV.int .i64 i88))), (20, (AV.pv (PV.int .i64 i89))), (24, (AV.pv (PV.int .i64 i90))), (199, (AV.pv (PV.bool b91)))] [])
noncomputable def J_slices_symMergeCmpFunc_api_Val_10 (l93 : List PV) (i94 : Int) (p95 : PV) (i96 : Int) (i97 : Int) : Option PV := jF60 [1, 1, 1, 1, 1, 1, 1, 1, 1, 1, 1] (St.mk [(0, (AV.pv (PV.slice 0 l93))), (3, (AV.pv (PV.int .i64 i94))), (4, (AV.pv p95)), (18, (AV.pv (PV.int .i64 i96))), (24, (AV.pv (PV.int .i64 i97)))] [])
noncomputable def J_slices_symMergeCmpFunc_api_Val_11 (l98 : List PV) (i99 : Int) (p100 : PV) (i101 : Int) (i102 : Int) (b103 : Bool) : Option PV := jF60 [1, 1, 1, 1, 1, 1, 1, 1, 1, 1, 1, 1] (St.mk [(0, (AV.pv (PV.slice 0 l98))), (3, (AV.pv (PV.int .i64 i99))), (4, (AV.pv p100)), (18, (AV.pv (PV.int .i64 i101))), (24, (AV.pv (PV.int .i64 i102))), (213, (AV.pv (PV.bool b103)))] [])
theorem L_slices_symMergeCmpFunc_api_Val_1_eq (l1 : List PV) (i2 : Int) (p3 : PV) (i4 : Int) (i5 : Int) : L_slices_symMergeCmpFunc_api_Val_1 l1 i2 p3 i4 i5 =
  (bif (decide (i4 < i5)) then (bif (decide ((0 : Int) ≤ (IntKind.wrap .i64 (Int.fdiv (IntKind.wrap .u64 (IntKind.wrap .i64 (i4 + i5 : Int))) (2 : Int))))) then (((l1)[(Int.toNat (IntKind.wrap .i64 (Int.fdiv (IntKind.wrap .u64 (IntKind.wrap .i64 (i4 + i5 : Int))) (2 : Int))))]?).bind (fun v20 => (c_s3 v20 (fun v21 => (bif (decide ((0 : Int) ≤ i2)) then (((l1)[(Int.toNat i2)]?).bind (fun v22 => (c_s3 v22 (fun v23 => (((PV.asFn p3)).bind (fun v24 => (((wc W (Prod.fst v24) (((Prod.fst (Prod.snd v24)) ++ [(PV.slice 3 v21), (PV.slice 3 v23)]) ++ (Prod.snd (Prod.snd v24))))).bind (fun v25 => (c_i64 v25 (fun v26 => (bif (decide (v26 < (0 : Int))) then (L_slices_symMergeCmpFunc_api_Val_1 l1 i2 p3 (IntKind.wrap .i64 ((IntKind.wrap .i64 (Int.fdiv (IntKind.wrap .u64 (IntKind.wrap .i64 (i4 + i5 : Int))) (2 : Int))) + (1 : Int) : Int)) i5) else (L_slices_symMergeCmpFunc_api_Val_1 l1 i2 p3 i4 (IntKind.wrap .i64 (Int.fdiv (IntKind.wrap .u64 (IntKind.wrap .i64 (i4 + i5 : Int))) (2 : Int))))))))))))))) else none))))) else none) else (L_slices_symMergeCmpFunc_api_Val_4 l1 i4 i2)) := (T60.loop [0, 1, 0, 1, 1, 0, 0] 0 _ rfl).trans (by kernel_rfl)
theorem L_slices_symMergeCmpFunc_api_Val_2_eq (l6 : List PV) (i7 : Int) (p8 : PV) (i9 : Int) (i10 : Int) : L_slices_symMergeCmpFunc_api_Val_2 l6 i7 p8 i9 i10 =
  (bif (decide (i9 < i10)) then (bif (decide ((0 : Int) ≤ i7)) then (((l6)[(Int.toNat i7)]?).bind (fun v30 => (c_s3 v30 (fun v31 => (bif (decide ((0 : Int) ≤ (IntKind.wrap .i64 (Int.fdiv (IntKind.wrap .u64 (IntKind.wrap .i64 (i9 + i10 : Int))) (2 : Int))))) then (((l6)[(Int.toNat (IntKind.wrap .i64 (Int.fdiv (IntKind.wrap .u64 (IntKind.wrap .i64 (i9 + i10 : Int))) (2 : Int))))]?).bind (fun v32 => (c_s3 v32 (fun v33 => (((PV.asFn p8)).bind (fun v34 => (((wc W (Prod.fst v34) (((Prod.fst (Prod.snd v34)) ++ [(PV.slice 3 v31), (PV.slice 3 v33)]) ++ (Prod.snd (Prod.snd v34))))).bind (fun v35 => (c_i64 v35 (fun v36 => (bif (!(decide (v36 < (0 : Int)))) then (L_slices_symMergeCmpFunc_api_Val_2 l6 i7 p8 (IntKind.wrap .i64 ((IntKind.wrap .i64 (Int.fdiv (IntKind.wrap .u64 (IntKind.wrap .i64 (i9 + i10 : Int))) (2 : Int))) + (1 : Int) : Int)) i10) else (L_slices_symMergeCmpFunc_api_Val_2 l6 i7 p8 i9 (IntKind.wrap .i64 (Int.fdiv (IntKind.wrap .u64 (IntKind.wrap .i64 (i9 + i10 : Int))) (2 : Int))))))))))))))) else none))))) else none) else (L_slices_symMergeCmpFunc_api_Val_5 l6 i9 i7)) := (T60.loop [1, 0, 1, 0, 1, 1, 0, 0] 0 _ rfl).trans (by kernel_rfl)
theorem J_slices_symMergeCmpFunc_api_Val_3_eq (l11 : List PV) (i12 : Int) (i13 : Int) (i14 : Int) (p15 : PV) (i16 : Int) (i17 : Int) (i18 : Int) (i19 : Int) : J_slices_symMergeCmpFunc_api_Val_3 l11 i12 i13 i14 p15 i16 i17 i18 i19 =
  (L_slices_symMergeCmpFunc_api_Val_6 l11 i12 i13 i14 p15 i16 i17 i18 i19 (IntKind.wrap .i64 (i17 - (1 : Int) : Int))) := (T60.join [1, 1, 1, 1, 1, 1] _).trans (by kernel_rfl)
theorem L_slices_symMergeCmpFunc_api_Val_4_eq (l27 : List PV) (i28 : Int) (i29 : Int) : L_slices_symMergeCmpFunc_api_Val_4 l27 i28 i29 =
  (bif (decide (i29 < (IntKind.wrap .i64 (i28 - (1 : Int) : Int)))) then (bif (decide ((0 : Int) ≤ (IntKind.wrap .i64 (i29 + (1 : Int) : Int)))) then (((l27)[(Int.toNat (IntKind.wrap .i64 (i29 + (1 : Int) : Int)))]?).bind (fun v50 => (c_s3 v50 (fun v51 => (bif (decide ((0 : Int) ≤ i29)) then (((l27)[(Int.toNat i29)]?).bind (fun v52 => (c_s3 v52 (fun v53 => (bif (decide ((0 : Int) ≤ i29)) then (((l27)[(Int.toNat i29)]?).bind (fun v54 => none)) else none))))) else none))))) else none) else (some (PV.tup []))) := (T60.loop [0, 1, 0, 1, 1, 1, 0, 1, 0] 0 _ rfl).trans (by kernel_rfl)
theorem L_slices_symMergeCmpFunc_api_Val_5_eq (l37 : List PV) (i38 : Int) (i39 : Int) : L_slices_symMergeCmpFunc_api_Val_5 l37 i38 i39 =
  (bif (decide (GT.gt i39 i38)) then (bif (decide ((0 : Int) ≤ (IntKind.wrap .i64 (i39 - (1 : Int) : Int)))) then (((l37)[(Int.toNat (IntKind.wrap .i64 (i39 - (1 : Int) : Int)))]?).bind (fun v55 => (c_s3 v55 (fun v56 => (bif (decide ((0 : Int) ≤ i39)) then (((l37)[(Int.toNat i39)]?).bind (fun v57 => (c_s3 v57 (fun v58 => (bif (decide ((0 : Int) ≤ i39)) then (((l37)[(Int.toNat i39)]?).bind (fun v59 => none)) else none))))) else none))))) else none) else (some (PV.tup []))) := (T60.loop [1, 0, 1, 0, 1, 1, 1, 0, 1, 0] 0 _ rfl).trans (by kernel_rfl)
theorem L_slices_symMergeCmpFunc_api_Val_6_eq (l40 : List PV) (i41 : Int) (i42 : Int) (i43 : Int) (p44 : PV) (i45 : Int) (i46 : Int) (i47 : Int) (i48 : Int) (i49 : Int) : L_slices_symMergeCmpFunc_api_Val_6 l40 i41 i42 i43 p44 i45 i46 i47 i48 i49 =
  (bif (decide (i47 < i48)) then (bif (decide ((0 : Int) ≤ (IntKind.wrap .i64 (i49 - (IntKind.wrap .i64 (Int.fdiv (IntKind.wrap .u64 (IntKind.wrap .i64 (i47 + i48 : Int))) (2 : Int))) : Int)))) then (((l40)[(Int.toNat (IntKind.wrap .i64 (i49 - (IntKind.wrap .i64 (Int.fdiv (IntKind.wrap .u64 (IntKind.wrap .i64 (i47 + i48 : Int))) (2 : Int))) : Int)))]?).bind (fun v60 => (c_s3 v60 (fun v61 => (bif (decide ((0 : Int) ≤ (IntKind.wrap .i64 (Int.fdiv (IntKind.wrap .u64 (IntKind.wrap .i64 (i47 + i48 : Int))) (2 : Int))))) then (((l40)[(Int.toNat (IntKind.wrap .i64 (Int.fdiv (IntKind.wrap .u64 (IntKind.wrap .i64 (i47 + i48 : Int))) (2 : Int))))]?).bind (fun v62 => (c_s3 v62 (fun v63 => (((PV.asFn p44)).bind (fun v64 => (((wc W (Prod.fst v64) (((Prod.fst (Prod.snd v64)) ++ [(PV.slice 3 v61), (PV.slice 3 v63)]) ++ (Prod.snd (Prod.snd v64))))).bind (fun v65 => (c_i64 v65 (fun v66 => (bif (!(decide (v66 < (0 : Int)))) then (L_slices_symMergeCmpFunc_api_Val_6 l40 i41 i42 i43 p44 i45 i46 (IntKind.wrap .i64 ((IntKind.wrap .i64 (Int.fdiv (IntKind.wrap .u64 (IntKind.wrap .i64 (i47 + i48 : Int))) (2 : Int))) + (1 : Int) : Int)) i48 i49) else (L_slices_symMergeCmpFunc_api_Val_6 l40 i41 i42 i43 p44 i45 i46 i47 (IntKind.wrap .i64 (Int.fdiv (IntKind.wrap .u64 (IntKind.wrap .i64 (i47 + i48 : Int))) (2 : Int))) i49)))))))))))) else none))))) else none) else (bif (decide (i47 < i42)) then (J_slices_symMergeCmpFunc_api_Val_7 l40 i41 i42 i43 p44 i45 i47 (IntKind.wrap .i64 (i46 - i47 : Int)) (decide (i42 < (IntKind.wrap .i64 (i46 - i47 : Int))))) else (J_slices_symMergeCmpFunc_api_Val_7 l40 i41 i42 i43 p44 i45 i47 (IntKind.wrap .i64 (i46 - i47 : Int)) false))) := (T60.loop [1, 1, 1, 1, 1, 1, 1, 0, 0] 0 _ rfl).trans (by kernel_rfl)
theorem J_slices_symMergeCmpFunc_api_Val_7_eq (l67 : List PV) (i68 : Int) (i69 : Int) (i70 : Int) (p71 : PV) (i72 : Int) (i73 : Int) (i74 : Int) (b75 : Bool) : J_slices_symMergeCmpFunc_api_Val_7 l67 i68 i69 i70 p71 i72 i73 i74 b75 =
  (bif b75 then (((wc W n_slices_rotateCmpFunc_api_Val [(PV.slice 0 l67), (PV.int .i64 i73), (PV.int .i64 i69), (PV.int .i64 i74), p71])).bind (fun v76 => (J_slices_symMergeCmpFunc_api_Val_8 l67 i68 i70 p71 i72 i73 i74))) else (J_slices_symMergeCmpFunc_api_Val_8 l67 i68 i70 p71 i72 i73 i74)) := (T60.join [1, 1, 1, 1, 1, 1, 1, 1, 1, 0, 1] _).trans (by kernel_rfl)
theorem J_slices_symMergeCmpFunc_api_Val_8_eq (l77 : List PV) (i78 : Int) (i79 : Int) (p80 : PV) (i81 : Int) (i82 : Int) (i83 : Int) : J_slices_symMergeCmpFunc_api_Val_8 l77 i78 i79 p80 i81 i82 i83 =
  (bif (decide (i78 < i82)) then (J_slices_symMergeCmpFunc_api_Val_9 l77 i78 i79 p80 i81 i82 i83 (decide (i82 < i81))) else (J_slices_symMergeCmpFunc_api_Val_9 l77 i78 i79 p80 i81 i82 i83 false)) := (T60.join [1, 1, 1, 1, 1, 1, 1, 1, 1, 1] _).trans (by kernel_rfl)
theorem J_slices_symMergeCmpFunc_api_Val_9_eq (l84 : List PV) (i85 : Int) (i86 : Int) (p87 : PV) (i88 : Int) (i89 : Int) (i90 : Int) (b91 : Bool) : J_slices_symMergeCmpFunc_api_Val_9 l84 i85 i86 p87 i88 i89 i90 b91 =
  (bif b91 then (((wc W n_slices_symMergeCmpFunc_api_Val [(PV.slice 0 l84), (PV.int .i64 i85), (PV.int .i64 i89), (PV.int .i64 i88), p87])).bind (fun v92 => (J_slices_symMergeCmpFunc_api_Val_10 l84 i86 p87 i88 i90))) else (J_slices_symMergeCmpFunc_api_Val_10 l84 i86 p87 i88 i90)) := (T60.join [1, 1, 1, 1, 1, 1, 1, 1, 1, 1, 0, 1] _).trans (by kernel_rfl)
theorem J_slices_symMergeCmpFunc_api_Val_10_eq (l93 : List PV) (i94 : Int) (p95 : PV) (i96 : Int) (i97 : Int) : J_slices_symMergeCmpFunc_api_Val_10 l93 i94 p95 i96 i97 =
  (bif (decide (i96 < i97)) then (J_slices_symMergeCmpFunc_api_Val_11 l93 i94 p95 i96 i97 (decide (i97 < i94))) else (J_slices_symMergeCmpFunc_api_Val_11 l93 i94 p95 i96 i97 false)) := (T60.join [1, 1, 1, 1, 1, 1, 1, 1, 1, 1, 1] _).trans (by kernel_rfl)
theorem J_slices_symMergeCmpFunc_api_Val_11_eq (l98 : List PV) (i99 : Int) (p100 : PV) (i101 : Int) (i102 : Int) (b103 : Bool) : J_slices_symMergeCmpFunc_api_Val_11 l98 i99 p100 i101 i102 b103 =
  (bif b103 then (((wc W n_slices_symMergeCmpFunc_api_Val [(PV.slice 0 l98), (PV.int .i64 i101), (PV.int .i64 i102), (PV.int .i64 i99), p100])).bind (fun v104 => (some (PV.tup [])))) else (some (PV.tup []))) := (T60.join [1, 1, 1, 1, 1, 1, 1, 1, 1, 1, 1, 1] _).trans (by kernel_rfl)
theorem e_slices_symMergeCmpFunc_api_Val (a0 : List PV) (a1 : Int) (a2 : Int) (a3 : Int) (a4 : PV) : wc W n_slices_symMergeCmpFunc_api_Val [(PV.slice 0 a0), (PV.int .i64 a1), (PV.int .i64 a2), (PV.int .i64 a3), a4] =
  (bif ((IntKind.wrap .i64 (a2 - a1 : Int)) == (1 : Int)) then (L_slices_symMergeCmpFunc_api_Val_1 a0 a1 a4 a2 a3) else (bif ((IntKind.wrap .i64 (a3 - a2 : Int)) == (1 : Int)) then (L_slices_symMergeCmpFunc_api_Val_2 a0 a2 a4 a1 a2) else (bif (decide (GT.gt a2 (IntKind.wrap .i64 (Int.fdiv (IntKind.wrap .u64 (IntKind.wrap .i64 (a1 + a3 : Int))) (2 : Int))))) then (J_slices_symMergeCmpFunc_api_Val_3 a0 a1 a2 a3 a4 (IntKind.wrap .i64 (Int.fdiv (IntKind.wrap .u64 (IntKind.wrap .i64 (a1 + a3 : Int))) (2 : Int))) (IntKind.wrap .i64 ((IntKind.wrap .i64 (Int.fdiv (IntKind.wrap .u64 (IntKind.wrap .i64 (a1 + a3 : Int))) (2 : Int))) + a2 : Int)) (IntKind.wrap .i64 ((IntKind.wrap .i64 ((IntKind.wrap .i64 (Int.fdiv (IntKind.wrap .u64 (IntKind.wrap .i64 (a1 + a3 : Int))) (2 : Int))) + a2 : Int)) - a3 : Int)) (IntKind.wrap .i64 (Int.fdiv (IntKind.wrap .u64 (IntKind.wrap .i64 (a1 + a3 : Int))) (2 : Int)))) else (J_slices_symMergeCmpFunc_api_Val_3 a0 a1 a2 a3 a4 (IntKind.wrap .i64 (Int.fdiv (IntKind.wrap .u64 (IntKind.wrap .i64 (a1 + a3 : Int))) (2 : Int))) (IntKind.wrap .i64 ((IntKind.wrap .i64 (Int.fdiv (IntKind.wrap .u64 (IntKind.wrap .i64 (a1 + a3 : Int))) (2 : Int))) + a2 : Int)) a1 a2)))) := go (by kernel_rfl) (by kernel_rfl) T60 (by kernel_rfl)
end Go.Cf

namespace Go.Cf
open Go Go.Ab
set_option linter.unusedVariables false
set_option maxRecDepth 100000
noncomputable def jF60o2 : Jn (AV × List Ob) := (Classical.choose (exT fi60 (finO cfg fi60 false 2))).1
noncomputable def lF60o2 : Ln (AV × List Ob) := (Classical.choose (exT fi60 (finO cfg fi60 false 2))).2
theorem T60o2 : Tied cfg W fi60 (finO cfg fi60 false 2) jF60o2 lF60o2 := Classical.choose_spec (exT fi60 (finO cfg fi60 false 2))
noncomputable def L_slices_symMergeCmpFunc_api_Val_o2_1 (i1 : Int) (i2 : Int) (i3 : Int) (l4 : List PV) (i5 : Int) : Option (AV × List Ob) := lF60o2 [0, 0, 1, 1, 0, 1, 0] 2 (St.mk [(0, (AV.fx 0 0)), (1, (AV.pv (PV.int .i64 i1))), (4, (AV.fnv n_bag_Sort_2 [] [(AV.own 1 0)])), (10, (AV.pv (PV.int .i64 i2))), (11, (AV.pv (PV.int .i64 i3)))] [(Ob.fix 0 0 l4), (Ob.var false 0 (AV.pv (PV.int .i64 i5)))])
noncomputable def L_slices_symMergeCmpFunc_api_Val_o2_2 (i6 : Int) (i7 : Int) (i8 : Int) (l9 : List PV) (i10 : Int) : Option (AV × List Ob) := lF60o2 [0, 0, 1, 1, 0, 1, 0, 1] 2 (St.mk [(0, (AV.fx 0 0)), (2, (AV.pv (PV.int .i64 i6))), (4, (AV.fnv n_bag_Sort_2 [] [(AV.own 1 0)])), (14, (AV.pv (PV.int .i64 i7))), (15, (AV.pv (PV.int .i64 i8)))] [(Ob.fix 0 0 l9), (Ob.var false 0 (AV.pv (PV.int .i64 i10)))])
noncomputable def J_slices_symMergeCmpFunc_api_Val_o2_3 (i11 : Int) (i12 : Int) (i13 : Int) (i14 : Int) (i15 : Int) (i16 : Int) (i17 : Int) (l18 : List PV) (i19 : Int) : Option (AV × List Ob) := jF60o2 [1, 1, 1, 1, 1, 1] (St.mk [(0, (AV.fx 0 0)), (1, (AV.pv (PV.int .i64 i11))), (2, (AV.pv (PV.int .i64 i12))), (3, (AV.pv (PV.int .i64 i13))), (4, (AV.fnv n_bag_Sort_2 [] [(AV.own 1 0)])), (18, (AV.pv (PV.int .i64 i14))), (19, (AV.pv (PV.int .i64 i15))), (20, (AV.pv (PV.int .i64 i16))), (21, (AV.pv (PV.int .i64 i17)))] [(Ob.fix 0 0 l18), (Ob.var false 0 (AV.pv (PV.int .i64 i19)))])
noncomputable def L_slices_symMergeCmpFunc_api_Val_o2_4 (i31 : Int) (i32 : Int) (l33 : List PV) (i34 : Int) : Option (AV × List Ob) := lF60o2 [0, 1, 0, 1, 1, 1, 0, 1, 0] 2 (St.mk [(0, (AV.fx 0 0)), (10, (AV.pv (PV.int .i64 i31))), (13, (AV.pv (PV.int .i64 i32)))] [(Ob.fix 0 0 l33), (Ob.var false 0 (AV.pv (PV.int .i64 i34)))])
noncomputable def L_slices_symMergeCmpFunc_api_Val_o2_5 (i46 : Int) (i47 : Int) (l48 : List PV) (i49 : Int) : Option (AV × List Ob) := lF60o2 [0, 1, 0, 1, 1, 1, 0, 1, 0, 1] 2 (St.mk [(0, (AV.fx 0 0)), (14, (AV.pv (PV.int .i64 i46))), (17, (AV.pv (PV.int .i64 i47)))] [(Ob.fix 0 0 l48), (Ob.var false 0 (AV.pv (PV.int .i64 i49)))])
noncomputable def L_slices_symMergeCmpFunc_api_Val_o2_6 (i50 : Int) (i51 : Int) (i52 : Int) (i53 : Int) (i54 : Int) (i55 : Int) (i56 : Int) (i57 : Int) (l58 : List PV) (i59 : Int) : Option (AV × List Ob) := lF60o2 [0, 0, 1, 1, 1, 1, 1, 1, 1] 2 (St.mk [(0, (AV.fx 0 0)), (1, (AV.pv (PV.int .i64 i50))), (2, (AV.pv (PV.int .i64 i51))), (3, (AV.pv (PV.int .i64 i52))), (4, (AV.fnv n_bag_Sort_2 [] [(AV.own 1 0)])), (18, (AV.pv (PV.int .i64 i53))), (19, (AV.pv (PV.int .i64 i54))), (20, (AV.pv (PV.int .i64 i55))), (21, (AV.pv (PV.int .i64 i56))), (22, (AV.pv (PV.int .i64 i57)))] [(Ob.fix 0 0 l58), (Ob.var false 0 (AV.pv (PV.int .i64 i59)))])
noncomputable def J_slices_symMergeCmpFunc_api_Val_o2_7 (i83 : Int) (i84 : Int) (i85 : Int) (i86 : Int) (i87 : Int) (i88 : Int) (b89 : Bool) (l90 : List PV) (i91 : Int) : Option (AV × List Ob) := jF60o2 [1, 0, 1, 1, 1, 1, 1, 1, 1, 1, 1] (St.mk [(0, (AV.fx 0 0)), (1, (AV.pv (PV.int .i64 i83))), (2, (AV.pv (PV.int .i64 i84))), (3, (AV.pv (PV.int .i64 i85))), (4, (AV.fnv n_bag_Sort_2 [] [(AV.own 1 0)])), (18, (AV.pv (PV.int .i64 i86))), (20, (AV.pv (PV.int .i64 i87))), (24, (AV.pv (PV.int .i64 i88))), (185, (AV.pv (PV.bool b89)))] [(Ob.fix 0 0 l90), (Ob.var false 0 (AV.pv (PV.int .i64 i91)))])
noncomputable def J_slices_symMergeCmpFunc_api_Val_o2_8 (i101 : Int) (i102 : Int) (i103 : Int) (i104 : Int) (i105 : Int) (l106 : List PV) (i107 : Int) : Option (AV × List Ob) := jF60o2 [1, 1, 1, 1, 1, 1, 1, 1, 1, 1] (St.mk [(0, (AV.fx 0 0)), (1, (AV.pv (PV.int .i64 i101))), (3, (AV.pv (PV.int .i64 i102))), (4, (AV.fnv n_bag_Sort_2 [] [(AV.own 1 0)])), (18, (AV.pv (PV.int .i64 i103))), (20, (AV.pv (PV.int .i64 i104))), (24, (AV.pv (PV.int .i64 i105)))] [(Ob.fix 0 0 l106), (Ob.var false 0 (AV.pv (PV.int .i64 i107)))])
noncomputable def J_slices_symMergeCmpFunc_api_Val_o2_9 (i108 : Int) (i109 : Int) (i110 : Int) (i111 : Int) (i112 : Int) (b113 : Bool) (l114 : List PV) (i115 : Int) : Option (AV × List Ob) := jF60o2 [1, 0, 1, 1, 1, 1, 1, 1, 1, 1, 1, 1] (St.mk [(0, (AV.fx 0 0)), (1, (AV.pv (PV.int .i64 i108))), (3, (AV.pv (PV.int .i64 i109))), (4, (AV.fnv n_bag_Sort_2 [] [(AV.own 1 0)])), (18, (AV.pv (PV.int .i64 i110))), (20, (AV.pv (PV.int .i64 i111))), (24, (AV.pv (PV.int .i64 i112))), (199, (AV.pv (PV.bool b113)))] [(Ob.fix 0 0 l114), (Ob.var false 0 (AV.pv (PV.int .i64 i115)))])
noncomputable def J_slices_symMergeCmpFunc_api_Val_o2_10 (i125 : Int) (i126 : Int) (i127 : Int) (l128 : List PV) (i129 : Int) : Option (AV × List Ob) := jF60o2 [1, 1, 1, 1, 1, 1, 1, 1, 1, 1, 1] (St.mk [(0, (AV.fx 0 0)), (3, (AV.pv (PV.int .i64 i125))), (4, (AV.fnv n_bag_Sort_2 [] [(AV.own 1 0)])), (18, (AV.pv (PV.int .i64 i126))), (24, (AV.pv (PV.int .i64 i127)))] [(Ob.fix 0 0 l128), (Ob.var false 0 (AV.pv (PV.int .i64 i129)))])
noncomputable def J_slices_symMergeCmpFunc_api_Val_o2_11 (i130 : Int) (i131 : Int) (i132 : Int) (b133 : Bool) (l134 : List PV) (i135 : Int) : Option (AV × List Ob) := jF60o2 [1, 1, 1, 1, 1, 1, 1, 1, 1, 1, 1, 1] (St.mk [(0, (AV.fx 0 0)), (3, (AV.pv (PV.int .i64 i130))), (4, (AV.fnv n_bag_Sort_2 [] [(AV.own 1 0)])), (18, (AV.pv (PV.int .i64 i131))), (24, (AV.pv (PV.int .i64 i132))), (213, (AV.pv (PV.bool b133)))] [(Ob.fix 0 0 l134), (Ob.var false 0 (AV.pv (PV.int .i64 i135)))])
theorem L_slices_symMergeCmpFunc_api_Val_o2_1_eq (i1 : Int) (i2 : Int) (i3 : Int) (l4 : List PV) (i5 : Int) : L_slices_symMergeCmpFunc_api_Val_o2_1 i1 i2 i3 l4 i5 =
  (bif (decide (i2 < i3)) then (bif ((true && (decide ((0 : Int) ≤ (IntKind.wrap .i64 (Int.fdiv (IntKind.wrap .u64 (IntKind.wrap .i64 (i2 + i3 : Int))) (2 : Int)))))) && (decide ((IntKind.wrap .i64 (Int.fdiv (IntKind.wrap .u64 (IntKind.wrap .i64 (i2 + i3 : Int))) (2 : Int))) < (((List.length l4) : Nat) : Int)))) then (((l4)[(Int.toNat (IntKind.wrap .i64 (Int.fdiv (IntKind.wrap .u64 (IntKind.wrap .i64 (i2 + i3 : Int))) (2 : Int))))]?).bind (fun v20 => (c_s3 v20 (fun v21 => (bif ((true && (decide ((0 : Int) ≤ i1))) && (decide (i1 < (((List.length l4) : Nat) : Int)))) then (((l4)[(Int.toNat i1)]?).bind (fun v22 => (c_s3 v22 (fun v23 => (((W n_bag_Sort_2 false [(AV.pv (PV.slice 3 v21)), (AV.pv (PV.slice 3 v23)), (AV.own 0 0)] [(Ob.var false 0 (AV.pv (PV.int .i64 i5)))])).bind (fun v27 => (k_5b106d v27 (fun v28 v29 => (c_i64 v28 (fun v30 => (bif (decide (v30 < (0 : Int))) then (L_slices_symMergeCmpFunc_api_Val_o2_1 i1 (IntKind.wrap .i64 ((IntKind.wrap .i64 (Int.fdiv (IntKind.wrap .u64 (IntKind.wrap .i64 (i2 + i3 : Int))) (2 : Int))) + (1 : Int) : Int)) i3 l4 v29) else (L_slices_symMergeCmpFunc_api_Val_o2_1 i1 i2 (IntKind.wrap .i64 (Int.fdiv (IntKind.wrap .u64 (IntKind.wrap .i64 (i2 + i3 : Int))) (2 : Int))) l4 v29)))))))))))) else none))))) else none) else (L_slices_symMergeCmpFunc_api_Val_o2_4 i2 i1 l4 i5)) := (T60o2.loop [0, 1, 0, 1, 1, 0, 0] 2 _ rfl).trans (by kernel_rfl)
theorem L_slices_symMergeCmpFunc_api_Val_o2_2_eq (i6 : Int) (i7 : Int) (i8 : Int) (l9 : List PV) (i10 : Int) : L_slices_symMergeCmpFunc_api_Val_o2_2 i6 i7 i8 l9 i10 =
  (bif (decide (i7 < i8)) then (bif ((true && (decide ((0 : Int) ≤ i6))) && (decide (i6 < (((List.length l9) : Nat) : Int)))) then (((l9)[(Int.toNat i6)]?).bind (fun v35 => (c_s3 v35 (fun v36 => (bif ((true && (decide ((0 : Int) ≤ (IntKind.wrap .i64 (Int.fdiv (IntKind.wrap .u64 (IntKind.wrap .i64 (i7 + i8 : Int))) (2 : Int)))))) && (decide ((IntKind.wrap .i64 (Int.fdiv (IntKind.wrap .u64 (IntKind.wrap .i64 (i7 + i8 : Int))) (2 : Int))) < (((List.length l9) : Nat) : Int)))) then (((l9)[(Int.toNat (IntKind.wrap .i64 (Int.fdiv (IntKind.wrap .u64 (IntKind.wrap .i64 (i7 + i8 : Int))) (2 : Int))))]?).bind (fun v37 => (c_s3 v37 (fun v38 => (((W n_bag_Sort_2 false [(AV.pv (PV.slice 3 v36)), (AV.pv (PV.slice 3 v38)), (AV.own 0 0)] [(Ob.var false 0 (AV.pv (PV.int .i64 i10)))])).bind (fun v42 => (k_5b106d v42 (fun v43 v44 => (c_i64 v43 (fun v45 => (bif (!(decide (v45 < (0 : Int)))) then (L_slices_symMergeCmpFunc_api_Val_o2_2 i6 (IntKind.wrap .i64 ((IntKind.wrap .i64 (Int.fdiv (IntKind.wrap .u64 (IntKind.wrap .i64 (i7 + i8 : Int))) (2 : Int))) + (1 : Int) : Int)) i8 l9 v44) else (L_slices_symMergeCmpFunc_api_Val_o2_2 i6 i7 (IntKind.wrap .i64 (Int.fdiv (IntKind.wrap .u64 (IntKind.wrap .i64 (i7 + i8 : Int))) (2 : Int))) l9 v44)))))))))))) else none))))) else none) else (L_slices_symMergeCmpFunc_api_Val_o2_5 i7 i6 l9 i10)) := (T60o2.loop [1, 0, 1, 0, 1, 1, 0, 0] 2 _ rfl).trans (by kernel_rfl)
theorem J_slices_symMergeCmpFunc_api_Val_o2_3_eq (i11 : Int) (i12 : Int) (i13 : Int) (i14 : Int) (i15 : Int) (i16 : Int) (i17 : Int) (l18 : List PV) (i19 : Int) : J_slices_symMergeCmpFunc_api_Val_o2_3 i11 i12 i13 i14 i15 i16 i17 l18 i19 =
  (L_slices_symMergeCmpFunc_api_Val_o2_6 i11 i12 i13 i14 i15 i16 i17 (IntKind.wrap .i64 (i15 - (1 : Int) : Int)) l18 i19) := (T60o2.join [1, 1, 1, 1, 1, 1] _).trans (by kernel_rfl)
theorem L_slices_symMergeCmpFunc_api_Val_o2_4_eq (i31 : Int) (i32 : Int) (l33 : List PV) (i34 : Int) : L_slices_symMergeCmpFunc_api_Val_o2_4 i31 i32 l33 i34 =
  (bif (decide (i32 < (IntKind.wrap .i64 (i31 - (1 : Int) : Int)))) then (bif ((true && (decide ((0 : Int) ≤ (IntKind.wrap .i64 (i32 + (1 : Int) : Int))))) && (decide ((IntKind.wrap .i64 (i32 + (1 : Int) : Int)) < (((List.length l33) : Nat) : Int)))) then (((l33)[(Int.toNat (IntKind.wrap .i64 (i32 + (1 : Int) : Int)))]?).bind (fun v60 => (c_s3 v60 (fun v61 => (bif ((true && (decide ((0 : Int) ≤ i32))) && (decide (i32 < (((List.length l33) : Nat) : Int)))) then (((l33)[(Int.toNat i32)]?).bind (fun v62 => (c_s3 v62 (fun v63 => (bif ((true && (decide ((0 : Int) ≤ i32))) && (decide (i32 < (((List.length l33) : Nat) : Int)))) then (((l33)[(Int.toNat i32)]?).bind (fun v64 => (bif ((true && (decide ((0 : Int) ≤ (IntKind.wrap .i64 (i32 + (1 : Int) : Int))))) && (decide ((IntKind.wrap .i64 (i32 + (1 : Int) : Int)) < (((List.length (List.set l33 (Int.toNat i32) (PV.slice 3 v61))) : Nat) : Int)))) then ((((List.set l33 (Int.toNat i32) (PV.slice 3 v61)))[(Int.toNat (IntKind.wrap .i64 (i32 + (1 : Int) : Int)))]?).bind (fun v65 => (L_slices_symMergeCmpFunc_api_Val_o2_4 i31 (IntKind.wrap .i64 (i32 + (1 : Int) : Int)) (List.set (List.set l33 (Int.toNat i32) (PV.slice 3 v61)) (Int.toNat (IntKind.wrap .i64 (i32 + (1 : Int) : Int))) (PV.slice 3 v63)) i34))) else none))) else none))))) else none))))) else none) else (some ((AV.pv (PV.tup [])), [(Ob.fix 0 0 l33), (Ob.var false 0 (AV.pv (PV.int .i64 i34)))]))) := (T60o2.loop [0, 1, 0, 1, 1, 1, 0, 1, 0] 2 _ rfl).trans (by kernel_rfl)
theorem L_slices_symMergeCmpFunc_api_Val_o2_5_eq (i46 : Int) (i47 : Int) (l48 : List PV) (i49 : Int) : L_slices_symMergeCmpFunc_api_Val_o2_5 i46 i47 l48 i49 =
  (bif (decide (GT.gt i47 i46)) then (bif ((true && (decide ((0 : Int) ≤ (IntKind.wrap .i64 (i47 - (1 : Int) : Int))))) && (decide ((IntKind.wrap .i64 (i47 - (1 : Int) : Int)) < (((List.length l48) : Nat) : Int)))) then (((l48)[(Int.toNat (IntKind.wrap .i64 (i47 - (1 : Int) : Int)))]?).bind (fun v66 => (c_s3 v66 (fun v67 => (bif ((true && (decide ((0 : Int) ≤ i47))) && (decide (i47 < (((List.length l48) : Nat) : Int)))) then (((l48)[(Int.toNat i47)]?).bind (fun v68 => (c_s3 v68 (fun v69 => (bif ((true && (decide ((0 : Int) ≤ i47))) && (decide (i47 < (((List.length l48) : Nat) : Int)))) then (((l48)[(Int.toNat i47)]?).bind (fun v70 => (bif ((true && (decide ((0 : Int) ≤ (IntKind.wrap .i64 (i47 - (1 : Int) : Int))))) && (decide ((IntKind.wrap .i64 (i47 - (1 : Int) : Int)) < (((List.length (List.set l48 (Int.toNat i47) (PV.slice 3 v67))) : Nat) : Int)))) then ((((List.set l48 (Int.toNat i47) (PV.slice 3 v67)))[(Int.toNat (IntKind.wrap .i64 (i47 - (1 : Int) : Int)))]?).bind (fun v71 => (L_slices_symMergeCmpFunc_api_Val_o2_5 i46 (IntKind.wrap .i64 (i47 - (1 : Int) : Int)) (List.set (List.set l48 (Int.toNat i47) (PV.slice 3 v67)) (Int.toNat (IntKind.wrap .i64 (i47 - (1 : Int) : Int))) (PV.slice 3 v69)) i49))) else none))) else none))))) else none))))) else none) else (some ((AV.pv (PV.tup [])), [(Ob.fix 0 0 l48), (Ob.var false 0 (AV.pv (PV.int .i64 i49)))]))) := (T60o2.loop [1, 0, 1, 0, 1, 1, 1, 0, 1, 0] 2 _ rfl).trans (by kernel_rfl)
theorem L_slices_symMergeCmpFunc_api_Val_o2_6_eq (i50 : Int) (i51 : Int) (i52 : Int) (i53 : Int) (i54 : Int) (i55 : Int) (i56 : Int) (i57 : Int) (l58 : List PV) (i59 : Int) : L_slices_symMergeCmpFunc_api_Val_o2_6 i50 i51 i52 i53 i54 i55 i56 i57 l58 i59 =
  (bif (decide (i55 < i56)) then (bif ((true && (decide ((0 : Int) ≤ (IntKind.wrap .i64 (i57 - (IntKind.wrap .i64 (Int.fdiv (IntKind.wrap .u64 (IntKind.wrap .i64 (i55 + i56 : Int))) (2 : Int))) : Int))))) && (decide ((IntKind.wrap .i64 (i57 - (IntKind.wrap .i64 (Int.fdiv (IntKind.wrap .u64 (IntKind.wrap .i64 (i55 + i56 : Int))) (2 : Int))) : Int)) < (((List.length l58) : Nat) : Int)))) then (((l58)[(Int.toNat (IntKind.wrap .i64 (i57 - (IntKind.wrap .i64 (Int.fdiv (IntKind.wrap .u64 (IntKind.wrap .i64 (i55 + i56 : Int))) (2 : Int))) : Int)))]?).bind (fun v72 => (c_s3 v72 (fun v73 => (bif ((true && (decide ((0 : Int) ≤ (IntKind.wrap .i64 (Int.fdiv (IntKind.wrap .u64 (IntKind.wrap .i64 (i55 + i56 : Int))) (2 : Int)))))) && (decide ((IntKind.wrap .i64 (Int.fdiv (IntKind.wrap .u64 (IntKind.wrap .i64 (i55 + i56 : Int))) (2 : Int))) < (((List.length l58) : Nat) : Int)))) then (((l58)[(Int.toNat (IntKind.wrap .i64 (Int.fdiv (IntKind.wrap .u64 (IntKind.wrap .i64 (i55 + i56 : Int))) (2 : Int))))]?).bind (fun v74 => (c_s3 v74 (fun v75 => (((W n_bag_Sort_2 false [(AV.pv (PV.slice 3 v73)), (AV.pv (PV.slice 3 v75)), (AV.own 0 0)] [(Ob.var false 0 (AV.pv (PV.int .i64 i59)))])).bind (fun v79 => (k_5b106d v79 (fun v80 v81 => (c_i64 v80 (fun v82 => (bif (!(decide (v82 < (0 : Int)))) then (L_slices_symMergeCmpFunc_api_Val_o2_6 i50 i51 i52 i53 i54 (IntKind.wrap .i64 ((IntKind.wrap .i64 (Int.fdiv (IntKind.wrap .u64 (IntKind.wrap .i64 (i55 + i56 : Int))) (2 : Int))) + (1 : Int) : Int)) i56 i57 l58 v81) else (L_slices_symMergeCmpFunc_api_Val_o2_6 i50 i51 i52 i53 i54 i55 (IntKind.wrap .i64 (Int.fdiv (IntKind.wrap .u64 (IntKind.wrap .i64 (i55 + i56 : Int))) (2 : Int))) i57 l58 v81)))))))))))) else none))))) else none) else (bif (decide (i55 < i51)) then (J_slices_symMergeCmpFunc_api_Val_o2_7 i50 i51 i52 i53 i55 (IntKind.wrap .i64 (i54 - i55 : Int)) (decide (i51 < (IntKind.wrap .i64 (i54 - i55 : Int)))) l58 i59) else (J_slices_symMergeCmpFunc_api_Val_o2_7 i50 i51 i52 i53 i55 (IntKind.wrap .i64 (i54 - i55 : Int)) false l58 i59))) := (T60o2.loop [1, 1, 1, 1, 1, 1, 1, 0, 0] 2 _ rfl).trans (by kernel_rfl)
theorem J_slices_symMergeCmpFunc_api_Val_o2_7_eq (i83 : Int) (i84 : Int) (i85 : Int) (i86 : Int) (i87 : Int) (i88 : Int) (b89 : Bool) (l90 : List PV) (i91 : Int) : J_slices_symMergeCmpFunc_api_Val_o2_7 i83 i84 i85 i86 i87 i88 b89 l90 i91 =
  (bif b89 then (((W n_slices_rotateCmpFunc_api_Val false [(AV.fx 0 0), (AV.pv (PV.int .i64 i87)), (AV.pv (PV.int .i64 i84)), (AV.pv (PV.int .i64 i88)), (AV.fnv n_bag_Sort_2 [] [(AV.own 1 0)])] [(Ob.fix 0 0 l90), (Ob.var false 0 (AV.pv (PV.int .i64 i91)))])).bind (fun v97 => (k_c4d914 v97 (fun v98 v99 v100 => (J_slices_symMergeCmpFunc_api_Val_o2_8 i83 i85 i86 i87 i88 v99 v100))))) else (J_slices_symMergeCmpFunc_api_Val_o2_8 i83 i85 i86 i87 i88 l90 i91)) := (T60o2.join [1, 1, 1, 1, 1, 1, 1, 1, 1, 0, 1] _).trans (by kernel_rfl)
theorem J_slices_symMergeCmpFunc_api_Val_o2_8_eq (i101 : Int) (i102 : Int) (i103 : Int) (i104 : Int) (i105 : Int) (l106 : List PV) (i107 : Int) : J_slices_symMergeCmpFunc_api_Val_o2_8 i101 i102 i103 i104 i105 l106 i107 =
  (bif (decide (i101 < i104)) then (J_slices_symMergeCmpFunc_api_Val_o2_9 i101 i102 i103 i104 i105 (decide (i104 < i103)) l106 i107) else (J_slices_symMergeCmpFunc_api_Val_o2_9 i101 i102 i103 i104 i105 false l106 i107)) := (T60o2.join [1, 1, 1, 1, 1, 1, 1, 1, 1, 1] _).trans (by kernel_rfl)
theorem J_slices_symMergeCmpFunc_api_Val_o2_9_eq (i108 : Int) (i109 : Int) (i110 : Int) (i111 : Int) (i112 : Int) (b113 : Bool) (l114 : List PV) (i115 : Int) : J_slices_symMergeCmpFunc_api_Val_o2_9 i108 i109 i110 i111 i112 b113 l114 i115 =
  (bif b113 then (((W n_slices_symMergeCmpFunc_api_Val false [(AV.fx 0 0), (AV.pv (PV.int .i64 i108)), (AV.pv (PV.int .i64 i111)), (AV.pv (PV.int .i64 i110)), (AV.fnv n_bag_Sort_2 [] [(AV.own 1 0)])] [(Ob.fix 0 0 l114), (Ob.var false 0 (AV.pv (PV.int .i64 i115)))])).bind (fun v121 => (k_c4d914 v121 (fun v122 v123 v124 => (J_slices_symMergeCmpFunc_api_Val_o2_10 i109 i110 i112 v123 v124))))) else (J_slices_symMergeCmpFunc_api_Val_o2_10 i109 i110 i112 l114 i115)) := (T60o2.join [1, 1, 1, 1, 1, 1, 1, 1, 1, 1, 0, 1] _).trans (by kernel_rfl)
theorem J_slices_symMergeCmpFunc_api_Val_o2_10_eq (i125 : Int) (i126 : Int) (i127 : Int) (l128 : List PV) (i129 : Int) : J_slices_symMergeCmpFunc_api_Val_o2_10 i125 i126 i127 l128 i129 =
  (bif (decide (i126 < i127)) then (J_slices_symMergeCmpFunc_api_Val_o2_11 i125 i126 i127 (decide (i127 < i125)) l128 i129) else (J_slices_symMergeCmpFunc_api_Val_o2_11 i125 i126 i127 false l128 i129)) := (T60o2.join [1, 1, 1, 1, 1, 1, 1, 1, 1, 1, 1] _).trans (by kernel_rfl)
theorem J_slices_symMergeCmpFunc_api_Val_o2_11_eq (i130 : Int) (i131 : Int) (i132 : Int) (b133 : Bool) (l134 : List PV) (i135 : Int) : J_slices_symMergeCmpFunc_api_Val_o2_11 i130 i131 i132 b133 l134 i135 =
  (bif b133 then (((W n_slices_symMergeCmpFunc_api_Val false [(AV.fx 0 0), (AV.pv (PV.int .i64 i131)), (AV.pv (PV.int .i64 i132)), (AV.pv (PV.int .i64 i130)), (AV.fnv n_bag_Sort_2 [] [(AV.own 1 0)])] [(Ob.fix 0 0 l134), (Ob.var false 0 (AV.pv (PV.int .i64 i135)))])).bind (fun v141 => (k_c4d914 v141 (fun v142 v143 v144 => (some ((AV.pv (PV.tup [])), [(Ob.fix 0 0 v143), (Ob.var false 0 (AV.pv (PV.int .i64 v144)))])))))) else (some ((AV.pv (PV.tup [])), [(Ob.fix 0 0 l134), (Ob.var false 0 (AV.pv (PV.int .i64 i135)))]))) := (T60o2.join [1, 1, 1, 1, 1, 1, 1, 1, 1, 1, 1, 1] _).trans (by kernel_rfl)
theorem o_slices_symMergeCmpFunc_api_Val_o2_1 (i0 : Int) (i1 : Int) (i2 : Int) (l3 : List PV) (i4 : Int) : W n_slices_symMergeCmpFunc_api_Val false [(AV.fx 0 0), (AV.pv (PV.int .i64 i0)), (AV.pv (PV.int .i64 i1)), (AV.pv (PV.int .i64 i2)), (AV.fnv n_bag_Sort_2 [] [(AV.own 1 0)])] [(Ob.fix 0 0 l3), (Ob.var false 0 (AV.pv (PV.int .i64 i4)))] =
  (bif ((IntKind.wrap .i64 (i1 - i0 : Int)) == (1 : Int)) then (L_slices_symMergeCmpFunc_api_Val_o2_1 i0 i1 i2 l3 i4) else (bif ((IntKind.wrap .i64 (i2 - i1 : Int)) == (1 : Int)) then (L_slices_symMergeCmpFunc_api_Val_o2_2 i1 i0 i1 l3 i4) else (bif (decide (GT.gt i1 (IntKind.wrap .i64 (Int.fdiv (IntKind.wrap .u64 (IntKind.wrap .i64 (i0 + i2 : Int))) (2 : Int))))) then (J_slices_symMergeCmpFunc_api_Val_o2_3 i0 i1 i2 (IntKind.wrap .i64 (Int.fdiv (IntKind.wrap .u64 (IntKind.wrap .i64 (i0 + i2 : Int))) (2 : Int))) (IntKind.wrap .i64 ((IntKind.wrap .i64 (Int.fdiv (IntKind.wrap .u64 (IntKind.wrap .i64 (i0 + i2 : Int))) (2 : Int))) + i1 : Int)) (IntKind.wrap .i64 ((IntKind.wrap .i64 ((IntKind.wrap .i64 (Int.fdiv (IntKind.wrap .u64 (IntKind.wrap .i64 (i0 + i2 : Int))) (2 : Int))) + i1 : Int)) - i2 : Int)) (IntKind.wrap .i64 (Int.fdiv (IntKind.wrap .u64 (IntKind.wrap .i64 (i0 + i2 : Int))) (2 : Int))) l3 i4) else (J_slices_symMergeCmpFunc_api_Val_o2_3 i0 i1 i2 (IntKind.wrap .i64 (Int.fdiv (IntKind.wrap .u64 (IntKind.wrap .i64 (i0 + i2 : Int))) (2 : Int))) (IntKind.wrap .i64 ((IntKind.wrap .i64 (Int.fdiv (IntKind.wrap .u64 (IntKind.wrap .i64 (i0 + i2 : Int))) (2 : Int))) + i1 : Int)) i0 i1 l3 i4)))) := goO (by kernel_rfl) (by kernel_rfl) T60o2 rfl (by kernel_rfl)
noncomputable def jF61 : Jn PV := (Classical.choose (exT fi61 (fin cfg fi61))).1
noncomputable def lF61 : Ln PV := (Classical.choose (exT fi61 (fin cfg fi61))).2
theorem T61 : Tied cfg W fi61 (fin cfg fi61) jF61 lF61 := Classical.choose_spec (exT fi61 (fin cfg fi61))
theorem e_cmp_Compare_int (a0 : Int) (a1 : Int) : wc W n_cmp_Compare_int [(PV.int .i64 a0), (PV.int .i64 a1)] =
  (((wc W n_cmp_isNaN_int [(PV.int .i64 a0)])).bind (fun v1 => (c_b v1 (fun v2 => (((wc W n_cmp_isNaN_int [(PV.int .i64 a1)])).bind (fun v3 => (c_b v3 (fun v4 => (bif v2 then (bif v4 then (some (PV.int .i64 (0 : Int))) else (some (PV.int .i64 (-1 : Int)))) else (bif v4 then (some (PV.int .i64 (1 : Int))) else (bif (decide (a0 < a1)) then (some (PV.int .i64 (-1 : Int))) else (bif (decide (GT.gt a0 a1)) then (some (PV.int .i64 (1 : Int))) else (some (PV.int .i64 (0 : Int))))))))))))))) := go (by kernel_rfl) (by kernel_rfl) T61 (by kernel_rfl)
noncomputable def jF76 : Jn PV := (Classical.choose (exT fi76 (fin cfg fi76))).1
noncomputable def lF76 : Ln PV := (Classical.choose (exT fi76 (fin cfg fi76))).2
theorem T76 : Tied cfg W fi76 (fin cfg fi76) jF76 lF76 := Classical.choose_spec (exT fi76 (fin cfg fi76))
noncomputable def L_slices_rotateCmpFunc_api_Val_1 (l1 : List PV) (i2 : Int) (p3 : PV) (i4 : Int) (i5 : Int) : Option PV := lF76 [0, 0, 1, 1] 0 (St.mk [(0, (AV.pv (PV.slice 0 l1))), (2, (AV.pv (PV.int .i64 i2))), (4, (AV.pv p3)), (10, (AV.pv (PV.int .i64 i4))), (11, (AV.pv (PV.int .i64 i5)))] [])
theorem L_slices_rotateCmpFunc_api_Val_1_eq (l1 : List PV) (i2 : Int) (p3 : PV) (i4 : Int) (i5 : Int) : L_slices_rotateCmpFunc_api_Val_1 l1 i2 p3 i4 i5 =
  (bif (i4 != i5) then (bif (decide (GT.gt i4 i5)) then (((wc W n_slices_swapRangeCmpFunc_api_Val [(PV.slice 0 l1), (PV.int .i64 (IntKind.wrap .i64 (i2 - i4 : Int))), (PV.int .i64 i2), (PV.int .i64 i5), p3])).bind (fun v6 => (L_slices_rotateCmpFunc_api_Val_1 l1 i2 p3 (IntKind.wrap .i64 (i4 - i5 : Int)) i5))) else (((wc W n_slices_swapRangeCmpFunc_api_Val [(PV.slice 0 l1), (PV.int .i64 (IntKind.wrap .i64 (i2 - i4 : Int))), (PV.int .i64 (IntKind.wrap .i64 ((IntKind.wrap .i64 (i2 + i5 : Int)) - i4 : Int))), (PV.int .i64 i4), p3])).bind (fun v7 => (L_slices_rotateCmpFunc_api_Val_1 l1 i2 p3 i4 (IntKind.wrap .i64 (i5 - i4 : Int)))))) else (((wc W n_slices_swapRangeCmpFunc_api_Val [(PV.slice 0 l1), (PV.int .i64 (IntKind.wrap .i64 (i2 - i4 : Int))), (PV.int .i64 i2), (PV.int .i64 i4), p3])).bind (fun v8 => (some (PV.tup []))))) := (T76.loop [1, 1, 0, 0] 0 _ rfl).trans (by kernel_rfl)
theorem e_slices_rotateCmpFunc_api_Val (a0 : List PV) (a1 : Int) (a2 : Int) (a3 : Int) (a4 : PV) : wc W n_slices_rotateCmpFunc_api_Val [(PV.slice 0 a0), (PV.int .i64 a1), (PV.int .i64 a2), (PV.int .i64 a3), a4] =
  (L_slices_rotateCmpFunc_api_Val_1 a0 a2 a4 (IntKind.wrap .i64 (a2 - a1 : Int)) (IntKind.wrap .i64 (a3 - a2 : Int))) := go (by kernel_rfl) (by kernel_rfl) T76 (by kernel_rfl)
noncomputable def jF76o2 : Jn (AV × List Ob) := (Classical.choose (exT fi76 (finO cfg fi76 false 2))).1
noncomputable def lF76o2 : Ln (AV × List Ob) := (Classical.choose (exT fi76 (finO cfg fi76 false 2))).2
theorem T76o2 : Tied cfg W fi76 (finO cfg fi76 false 2) jF76o2 lF76o2 := Classical.choose_spec (exT fi76 (finO cfg fi76 false 2))
noncomputable def L_slices_rotateCmpFunc_api_Val_o2_1 (i1 : Int) (i2 : Int) (i3 : Int) (l4 : List PV) (i5 : Int) : Option (AV × List Ob) := lF76o2 [0, 0, 1, 1] 2 (St.mk [(0, (AV.fx 0 0)), (2, (AV.pv (PV.int .i64 i1))), (4, (AV.fnv n_bag_Sort_2 [] [(AV.own 1 0)])), (10, (AV.pv (PV.int .i64 i2))), (11, (AV.pv (PV.int .i64 i3)))] [(Ob.fix 0 0 l4), (Ob.var false 0 (AV.pv (PV.int .i64 i5)))])
theorem L_slices_rotateCmpFunc_api_Val_o2_1_eq (i1 : Int) (i2 : Int) (i3 : Int) (l4 : List PV) (i5 : Int) : L_slices_rotateCmpFunc_api_Val_o2_1 i1 i2 i3 l4 i5 =
  (bif (i2 != i3) then (bif (decide (GT.gt i2 i3)) then (((W n_slices_swapRangeCmpFunc_api_Val false [(AV.fx 0 0), (AV.pv (PV.int .i64 (IntKind.wrap .i64 (i1 - i2 : Int)))), (AV.pv (PV.int .i64 i1)), (AV.pv (PV.int .i64 i3)), (AV.fnv n_bag_Sort_2 [] [(AV.own 1 0)])] [(Ob.fix 0 0 l4), (Ob.var false 0 (AV.pv (PV.int .i64 i5)))])).bind (fun v11 => (k_c4d914 v11 (fun v12 v13 v14 => (L_slices_rotateCmpFunc_api_Val_o2_1 i1 (IntKind.wrap .i64 (i2 - i3 : Int)) i3 v13 v14))))) else (((W n_slices_swapRangeCmpFunc_api_Val false [(AV.fx 0 0), (AV.pv (PV.int .i64 (IntKind.wrap .i64 (i1 - i2 : Int)))), (AV.pv (PV.int .i64 (IntKind.wrap .i64 ((IntKind.wrap .i64 (i1 + i3 : Int)) - i2 : Int)))), (AV.pv (PV.int .i64 i2)), (AV.fnv n_bag_Sort_2 [] [(AV.own 1 0)])] [(Ob.fix 0 0 l4), (Ob.var false 0 (AV.pv (PV.int .i64 i5)))])).bind (fun v20 => (k_c4d914 v20 (fun v21 v22 v23 => (L_slices_rotateCmpFunc_api_Val_o2_1 i1 i2 (IntKind.wrap .i64 (i3 - i2 : Int)) v22 v23)))))) else (((W n_slices_swapRangeCmpFunc_api_Val false [(AV.fx 0 0), (AV.pv (PV.int .i64 (IntKind.wrap .i64 (i1 - i2 : Int)))), (AV.pv (PV.int .i64 i1)), (AV.pv (PV.int .i64 i2)), (AV.fnv n_bag_Sort_2 [] [(AV.own 1 0)])] [(Ob.fix 0 0 l4), (Ob.var false 0 (AV.pv (PV.int .i64 i5)))])).bind (fun v29 => (k_c4d914 v29 (fun v30 v31 v32 => (some ((AV.pv (PV.tup [])), [(Ob.fix 0 0 v31), (Ob.var false 0 (AV.pv (PV.int .i64 v32)))]))))))) := (T76o2.loop [1, 1, 0, 0] 2 _ rfl).trans (by kernel_rfl)
theorem o_slices_rotateCmpFunc_api_Val_o2_1 (i0 : Int) (i1 : Int) (i2 : Int) (l3 : List PV) (i4 : Int) : W n_slices_rotateCmpFunc_api_Val false [(AV.fx 0 0), (AV.pv (PV.int .i64 i0)), (AV.pv (PV.int .i64 i1)), (AV.pv (PV.int .i64 i2)), (AV.fnv n_bag_Sort_2 [] [(AV.own 1 0)])] [(Ob.fix 0 0 l3), (Ob.var false 0 (AV.pv (PV.int .i64 i4)))] =
  (L_slices_rotateCmpFunc_api_Val_o2_1 i1 (IntKind.wrap .i64 (i1 - i0 : Int)) (IntKind.wrap .i64 (i2 - i1 : Int)) l3 i4) := goO (by kernel_rfl) (by kernel_rfl) T76o2 rfl (by kernel_rfl)
noncomputable def jF77 : Jn PV := (Classical.choose (exT fi77 (fin cfg fi77))).1
noncomputable def lF77 : Ln PV := (Classical.choose (exT fi77 (fin cfg fi77))).2
theorem T77 : Tied cfg W fi77 (fin cfg fi77) jF77 lF77 := Classical.choose_spec (exT fi77 (fin cfg fi77))
theorem e_cmp_isNaN_int (a0 : Int) : wc W n_cmp_isNaN_int [(PV.int .i64 a0)] =
  (some (PV.bool (a0 != a0))) := go (by kernel_rfl) (by kernel_rfl) T77 (by kernel_rfl)
noncomputable def jF85 : Jn PV := (Classical.choose (exT fi85 (fin cfg fi85))).1
noncomputable def lF85 : Ln PV := (Classical.choose (exT fi85 (fin cfg fi85))).2
theorem T85 : Tied cfg W fi85 (fin cfg fi85) jF85 lF85 := Classical.choose_spec (exT fi85 (fin cfg fi85))
noncomputable def L_slices_swapRangeCmpFunc_api_Val_1 (l1 : List PV) (i2 : Int) (i3 : Int) (i4 : Int) (i5 : Int) : Option PV := lF85 [0, 1] 0 (St.mk [(0, (AV.pv (PV.slice 0 l1))), (1, (AV.pv (PV.int .i64 i2))), (2, (AV.pv (PV.int .i64 i3))), (3, (AV.pv (PV.int .i64 i4))), (10, (AV.pv (PV.int .i64 i5)))] [])
theorem L_slices_swapRangeCmpFunc_api_Val_1_eq (l1 : List PV) (i2 : Int) (i3 : Int) (i4 : Int) (i5 : Int) : L_slices_swapRangeCmpFunc_api_Val_1 l1 i2 i3 i4 i5 =
  (bif (decide (i5 < i4)) then (bif (decide ((0 : Int) ≤ (IntKind.wrap .i64 (i3 + i5 : Int)))) then (((l1)[(Int.toNat (IntKind.wrap .i64 (i3 + i5 : Int)))]?).bind (fun v6 => (c_s3 v6 (fun v7 => (bif (decide ((0 : Int) ≤ (IntKind.wrap .i64 (i2 + i5 : Int)))) then (((l1)[(Int.toNat (IntKind.wrap .i64 (i2 + i5 : Int)))]?).bind (fun v8 => (c_s3 v8 (fun v9 => (bif (decide ((0 : Int) ≤ (IntKind.wrap .i64 (i2 + i5 : Int)))) then (((l1)[(Int.toNat (IntKind.wrap .i64 (i2 + i5 : Int)))]?).bind (fun v10 => none)) else none))))) else none))))) else none) else (some (PV.tup []))) := (T85.loop [1, 0] 0 _ rfl).trans (by kernel_rfl)
theorem e_slices_swapRangeCmpFunc_api_Val (a0 : List PV) (a1 : Int) (a2 : Int) (a3 : Int) (a4 : PV) : wc W n_slices_swapRangeCmpFunc_api_Val [(PV.slice 0 a0), (PV.int .i64 a1), (PV.int .i64 a2), (PV.int .i64 a3), a4] =
  (L_slices_swapRangeCmpFunc_api_Val_1 a0 a1 a2 a3 (0 : Int)) := go (by kernel_rfl) (by kernel_rfl) T85 (by kernel_rfl)
noncomputable def jF85o2 : Jn (AV × List Ob) := (Classical.choose (exT fi85 (finO cfg fi85 false 2))).1
noncomputable def lF85o2 : Ln (AV × List Ob) := (Classical.choose (exT fi85 (finO cfg fi85 false 2))).2
theorem T85o2 : Tied cfg W fi85 (finO cfg fi85 false 2) jF85o2 lF85o2 := Classical.choose_spec (exT fi85 (finO cfg fi85 false 2))
noncomputable def L_slices_swapRangeCmpFunc_api_Val_o2_1 (i1 : Int) (i2 : Int) (i3 : Int) (i4 : Int) (l5 : List PV) (i6 : Int) : Option (AV × List Ob) := lF85o2 [0, 1] 2 (St.mk [(0, (AV.fx 0 0)), (1, (AV.pv (PV.int .i64 i1))), (2, (AV.pv (PV.int .i64 i2))), (3, (AV.pv (PV.int .i64 i3))), (10, (AV.pv (PV.int .i64 i4)))] [(Ob.fix 0 0 l5), (Ob.var false 0 (AV.pv (PV.int .i64 i6)))])
theorem L_slices_swapRangeCmpFunc_api_Val_o2_1_eq (i1 : Int) (i2 : Int) (i3 : Int) (i4 : Int) (l5 : List PV) (i6 : Int) : L_slices_swapRangeCmpFunc_api_Val_o2_1 i1 i2 i3 i4 l5 i6 =
  (bif (decide (i4 < i3)) then (bif ((true && (decide ((0 : Int) ≤ (IntKind.wrap .i64 (i2 + i4 : Int))))) && (decide ((IntKind.wrap .i64 (i2 + i4 : Int)) < (((List.length l5) : Nat) : Int)))) then (((l5)[(Int.toNat (IntKind.wrap .i64 (i2 + i4 : Int)))]?).bind (fun v7 => (c_s3 v7 (fun v8 => (bif ((true && (decide ((0 : Int) ≤ (IntKind.wrap .i64 (i1 + i4 : Int))))) && (decide ((IntKind.wrap .i64 (i1 + i4 : Int)) < (((List.length l5) : Nat) : Int)))) then (((l5)[(Int.toNat (IntKind.wrap .i64 (i1 + i4 : Int)))]?).bind (fun v9 => (c_s3 v9 (fun v10 => (bif ((true && (decide ((0 : Int) ≤ (IntKind.wrap .i64 (i1 + i4 : Int))))) && (decide ((IntKind.wrap .i64 (i1 + i4 : Int)) < (((List.length l5) : Nat) : Int)))) then (((l5)[(Int.toNat (IntKind.wrap .i64 (i1 + i4 : Int)))]?).bind (fun v11 => (bif ((true && (decide ((0 : Int) ≤ (IntKind.wrap .i64 (i2 + i4 : Int))))) && (decide ((IntKind.wrap .i64 (i2 + i4 : Int)) < (((List.length (List.set l5 (Int.toNat (IntKind.wrap .i64 (i1 + i4 : Int))) (PV.slice 3 v8))) : Nat) : Int)))) then ((((List.set l5 (Int.toNat (IntKind.wrap .i64 (i1 + i4 : Int))) (PV.slice 3 v8)))[(Int.toNat (IntKind.wrap .i64 (i2 + i4 : Int)))]?).bind (fun v12 => (L_slices_swapRangeCmpFunc_api_Val_o2_1 i1 i2 i3 (IntKind.wrap .i64 (i4 + (1 : Int) : Int)) (List.set (List.set l5 (Int.toNat (IntKind.wrap .i64 (i1 + i4 : Int))) (PV.slice 3 v8)) (Int.toNat (IntKind.wrap .i64 (i2 + i4 : Int))) (PV.slice 3 v10)) i6))) else none))) else none))))) else none))))) else none) else (some ((AV.pv (PV.tup [])), [(Ob.fix 0 0 l5), (Ob.var false 0 (AV.pv (PV.int .i64 i6)))]))) := (T85o2.loop [1, 0] 2 _ rfl).trans (by kernel_rfl)
theorem o_slices_swapRangeCmpFunc_api_Val_o2_1 (i0 : Int) (i1 : Int) (i2 : Int) (l3 : List PV) (i4 : Int) : W n_slices_swapRangeCmpFunc_api_Val false [(AV.fx 0 0), (AV.pv (PV.int .i64 i0)), (AV.pv (PV.int .i64 i1)), (AV.pv (PV.int .i64 i2)), (AV.fnv n_bag_Sort_2 [] [(AV.own 1 0)])] [(Ob.fix 0 0 l3), (Ob.var false 0 (AV.pv (PV.int .i64 i4)))] =
  (L_slices_swapRangeCmpFunc_api_Val_o2_1 i0 i1 i2 (0 : Int) l3 i4) := goO (by kernel_rfl) (by kernel_rfl) T85o2 rfl (by kernel_rfl)
end Go.Cf

namespace Go.Cf
open Go Go.Ab
set_option linter.unusedVariables false
set_option linter.unusedSimpArgs false
structure Val where
  K : Int
  N : Int
  deriving DecidableEq
def Val.pv (v : Val) : PV := .agg [.int .i64 v.K, .int .i64 v.N]
@[simp] theorem Val.fold (v : Val) : PV.agg [.int .i64 v.K, .int .i64 v.N] = v.pv := rfl
@[simp] theorem Val.c_mk (v : Val) {R : Type} (f : Int → Int → Option R) : c_g_i64_i64 v.pv f = f v.K v.N := rfl
structure Def where
  Cols : Int
  Rows : Int
  deriving DecidableEq
def Def.pv (d : Def) : PV := .agg [.int .i64 d.Cols, .int .i64 d.Rows]
@[simp] theorem Def.fold (v : Def) : PV.agg [.int .i64 v.Cols, .int .i64 v.Rows] = v.pv := rfl
@[simp] theorem Def.c_mk (v : Def) {R : Type} (f : Int → Int → Option R) : c_g_i64_i64 v.pv f = f v.Cols v.Rows := rfl
@[simp] theorem Def.load0 (v : Def) : PV.load 3 v.pv 0 0 = some (.int .i64 v.Cols) := rfl
@[simp] theorem Def.load1 (v : Def) : PV.load 3 v.pv 1 0 = some (.int .i64 v.Rows) := rfl
def rowp (r : List Val) : PV := .slice 3 (r.map Val.pv)
def tabp (t : List (List Val)) : PV := .slice 0 (t.map rowp)
@[simp] theorem c_rowp (r : List Val) {R : Type} (f : List PV → Option R) : c_s3 (rowp r) f = f (r.map Val.pv) := rfl
@[simp] theorem c_tabp (t : List (List Val)) {R : Type} (f : List PV → Option R) : c_s0 (tabp t) f = f (t.map rowp) := rfl
@[simp] theorem rowp_fold (r : List Val) : PV.slice 3 (r.map Val.pv) = rowp r := rfl
@[simp] theorem tabp_fold (t : List (List Val)) : PV.slice 0 (t.map rowp) = tabp t := rfl
def intp (n : Int) : PV := .int .i64 n
@[simp] theorem c_intp (n : Int) {R : Type} (f : Int → Option R) : c_i64 (intp n) f = f n := rfl
def intsp (l : List Int) : PV := .slice 0 (l.map intp)
@[simp] theorem intsp_fold (l : List Int) : PV.slice 0 (l.map intp) = intsp l := rfl
@[simp] theorem c_intsp (l : List Int) {R : Type} (f : List PV → Option R) : c_s0 (intsp l) f = f (l.map intp) := rfl
def idxI {α : Type} (l : List α) (f : α → Bool) : Int := match l.findIdx? f with | some i => (i : Int) | none => -1
theorem idxI_any {α : Type} (l : List α) (f : α → Bool) : decide (idxI l f ≥ 0) = l.any f := by
  unfold idxI
  cases h : l.findIdx? f with
  | some i =>
    have := List.findIdx?_eq_some_iff_getElem.1 h
    obtain ⟨hi, h1, _⟩ := this
    have : l.any f = true := List.any_eq_true.2 ⟨_, List.getElem_mem hi, h1⟩
    rw [this]; simp
  | none =>
    have := List.findIdx?_eq_none_iff.1 h
    have : l.any f = false := by
      rw [Bool.eq_false_iff]
      intro e
      obtain ⟨x, hx, e⟩ := List.any_eq_true.1 e
      rw [this x hx] at e; cases e
    rw [this]; rfl
theorem loop_idx {R α : Type} (L : Int → Option R) (l : List α) (f : α → Bool) (g : Int → Option R) (hs : ∀ (i : Nat) (h : i < l.length), L (i : Int) = bif f l[i] then g (i : Int) else L ((i : Int) + 1)) (he : L (l.length : Int) = g (-1)) :
    L 0 = g (idxI l f) := by
  have : ∀ k i : Nat, i + k = l.length → L (i : Int) = g (match (l.drop i).findIdx? f with | some j => ((i + j : Nat) : Int) | none => -1) := by
    intro k
    induction k with
    | zero =>
      intro i h; simp at h; subst h
      rw [he, List.drop_of_length_le (Nat.le_refl _)]; rfl
    | succ k ih =>
      intro i h
      have hi : i < l.length := by omega
      rw [hs i hi, List.drop_eq_getElem_cons hi, List.findIdx?_cons]
      cases f l[i] with
      | true => simp
      | false =>
        simp only [cond_false, Bool.false_eq_true, if_false]
        rw [show ((i : Int) + 1) = ((i + 1 : Nat) : Int) by omega, ih (i + 1) (by omega)]
        cases (List.drop (i + 1) l).findIdx? f with
        | none => rfl
        | some j =>
          simp only [Option.map_some]
          congr 1; omega
  have h0 := this l.length 0 (by omega)
  simp only [Nat.zero_add, List.drop_zero] at h0
  exact h0
theorem w_idxVal (l : List Val) (g : Nat) (fs cs : List PV) (f : Val → Bool) (hl : l.length ≤ 9223372036854775807) (hf : ∀ x ∈ l, wc W g (fs ++ [x.pv] ++ cs) = some (.bool (f x))) :
    wc W n_slices_IndexFunc_api_Val_api_Val [rowp l, .fn g fs cs] = some (.int .i64 (idxI l f)) := by
  unfold rowp
  rw [e_slices_IndexFunc_api_Val_api_Val, List.length_map]
  refine loop_idx (fun i => L_slices_IndexFunc_api_Val_api_Val_1 (l.map Val.pv) (.fn g fs cs) l.length i) l f (fun n => some (.int .i64 n)) (fun i hi => ?_) ?_
  · rw [L_slices_IndexFunc_api_Val_api_Val_1_eq]
    simp only [lt_len hi, nat_le, cond_true, Int.toNat_natCast, List.getElem?_map, List.getElem?_eq_getElem hi, Option.map_some, Option.bind_some, Val.c_mk, asFn_mk, Val.fold]
    rw [hf _ (List.getElem_mem hi), wrap64 (by omega) (by omega)]
    simp only [Option.bind_some, c_b_mk]
  · rw [L_slices_IndexFunc_api_Val_api_Val_1_eq]; simp
theorem w_anyVal (l : List Val) (g : Nat) (fs cs : List PV) (f : Val → Bool) (hl : l.length ≤ 9223372036854775807) (hf : ∀ x ∈ l, wc W g (fs ++ [x.pv] ++ cs) = some (.bool (f x))) :
    wc W n_slices_ContainsFunc_api_Val_api_Val [rowp l, .fn g fs cs] = some (.bool (l.any f)) := by
  have h := e_slices_ContainsFunc_api_Val_api_Val (l.map Val.pv) (.fn g fs cs)
  rw [rowp_fold] at h
  rw [h, w_idxVal l g fs cs f hl hf]
  simp [← idxI_any]
def mayV (v : Val) : Bool := decide (v.K = 0) || ((decide (v.K = 1) || decide (v.K = 2)) && decide (v.N = 0))
theorem w_val_May (v : Val) : wc W n_val_May [v.pv] = some (.bool (mayV v)) := by
  have h := e_val_May v.K v.N
  rw [Val.fold] at h
  rw [h]
  unfold mayV
  by_cases h0 : v.K = 0
  · rw [h0]; simp
  · by_cases h1 : v.K = 1
    · rw [h1]; simp [BEq.beq]
    · by_cases h2 : v.K = 2
      · rw [h2]; simp [BEq.beq]
      · by_cases a : v.K ≥ 0
        · rw [decide_eq_true a, decide_eq_false (show ¬ v.K < 3 by omega)]; simp [h0, h1, h2]
        · rw [decide_eq_false a]; simp [h0, h1, h2]
end Go.Cf

namespace Go.Cf
open Go Go.Ab
set_option linter.unusedVariables false
set_option linter.unusedSimpArgs false
def bagp (c : List Int) (r : List (List Val)) : PV := .agg [intsp c, tabp r]
@[simp] theorem bagp_fold (c : List Int) (r : List (List Val)) : PV.agg [intsp c, tabp r] = bagp c r := rfl
@[simp] theorem c_bagp (c : List Int) (r : List (List Val)) {R : Type} (f : List PV → List PV → Option R) : c_g_s0_s0 (bagp c r) f = f (c.map intp) (r.map rowp) := rfl
theorem any_not {α : Type} (l : List α) (f : α → Bool) : (!l.any fun x => !f x) = l.all f := by
  induction l with
  | nil => rfl
  | cons a l ih => simp only [List.any_cons, List.all_cons, Bool.not_or, Bool.not_not, ih]
def upd (f : Nat → Bool) (v : Nat) : Nat → Bool := fun k => bif k == 0 + v * 1 then true else f k
def goC : (Nat → Bool) → List Int → Option (Nat → Bool)
  | f, [] => some f
  | f, c :: r => bif (decide (0 ≤ c) && decide (c ≤ 15)) && !f c.toNat then goC (upd f c.toNat) r else none
noncomputable def M1 (l1 l2 l3 : List PV) (n i : Int) (f : Nat → Bool) : Option PV := L_bag_May_1 l1 l2 l3 n i (f 0) (f 1) (f 2) (f 3) (f 4) (f 5) (f 6) (f 7) (f 8) (f 9) (f 10) (f 11) (f 12) (f 13) (f 14) (f 15)
noncomputable def M2 (l1 l2 l3 : List PV) (n i : Int) (f : Nat → Bool) : Option PV := L_bag_May_2 l1 l2 l3 n i (f 0) (f 1) (f 2) (f 3) (f 4) (f 5) (f 6) (f 7) (f 8) (f 9) (f 10) (f 11) (f 12) (f 13) (f 14) (f 15)
theorem load16 (f : Nat → Bool) : ∀ v : Nat, v < 16 → PV.load 17 (.agg [.bool (f 0), .bool (f 1), .bool (f 2), .bool (f 3), .bool (f 4), .bool (f 5), .bool (f 6), .bool (f 7), .bool (f 8), .bool (f 9), .bool (f 10), .bool (f 11), .bool (f 12), .bool (f 13), .bool (f 14), .bool (f 15)]) (0 + v * 1) 0 = some (.bool (f v))
  | 0, _ => rfl | 1, _ => rfl | 2, _ => rfl | 3, _ => rfl | 4, _ => rfl | 5, _ => rfl | 6, _ => rfl | 7, _ => rfl
  | 8, _ => rfl | 9, _ => rfl | 10, _ => rfl | 11, _ => rfl | 12, _ => rfl | 13, _ => rfl | 14, _ => rfl | 15, _ => rfl
  | n + 16, h => by omega
theorem may1_loop (cols : List Int) (rows : List PV) (hl : cols.length ≤ 9223372036854775807) : ∀ (k i : Nat) (f : Nat → Bool), i + k = cols.length →
    M1 (cols.map intp) rows (cols.map intp) (cols.length : Int) (i : Int) f = match goC f (cols.drop i) with | some f' => M2 (cols.map intp) rows rows ((rows.length : Nat) : Int) 0 f' | none => some (.bool false)
  | 0, i, f, h => by
    unfold M1
    rw [L_bag_May_1_eq, show i = cols.length by omega]
    simp only [ge_len, cond_false, List.drop_length, goC]
    rfl
  | k + 1, i, f, h => by
    have hi : i < cols.length := by omega
    unfold M1
    rw [L_bag_May_1_eq, List.drop_eq_getElem_cons hi, goC]
    simp only [lt_len hi, nat_le, cond_true, Int.toNat_natCast, List.getElem?_map, List.getElem?_eq_getElem hi, Option.map_some, Option.bind_some, c_intp]
    by_cases h0 : cols[i] < 0
    · rw [decide_eq_true h0, decide_eq_false (show ¬ 0 ≤ cols[i] by omega)]; rfl
    rw [decide_eq_false h0, decide_eq_true (show 0 ≤ cols[i] by omega)]
    by_cases h15 : cols[i] > 15
    · rw [decide_eq_true h15, decide_eq_false (show ¬ cols[i] ≤ 15 by omega)]; rfl
    rw [decide_eq_false h15, decide_eq_true (show cols[i] ≤ 15 by omega), decide_eq_true (show cols[i] < 16 by omega)]
    simp only [cond_false, Bool.and_self, cond_true, Bool.true_and, load16 f cols[i].toNat (by omega), Option.bind_some, c_b_mk]
    cases hf : f cols[i].toNat with
    | true => rfl
    | false =>
      simp only [cond_false, Bool.not_false, cond_true, decide_eq_true (show 0 + cols[i].toNat * 1 + 1 ≤ 16 by omega), Bool.and_true]
      rw [wrap64 (by omega) (by omega)]
      exact may1_loop cols rows hl k (i + 1) (upd f cols[i].toNat) (by omega)
theorem goC_iff : ∀ (cols : List Int) (f : Nat → Bool), (goC f cols).isSome = true ↔ (∀ c ∈ cols, (0 ≤ c ∧ c ≤ 15) ∧ f c.toNat = false) ∧ cols.Nodup
  | [], f => by simp [goC]
  | c :: r, f => by
    unfold goC
    cases hb : (decide (0 ≤ c) && decide (c ≤ 15)) && !f c.toNat with
    | false =>
      simp only [cond_false, Option.isSome_none, Bool.false_eq_true, false_iff, not_and]
      intro h
      have := h c (by simp)
      rw [decide_eq_true this.1.1, decide_eq_true this.1.2, this.2] at hb
      cases hb
    | true =>
      simp only [cond_true]
      rw [goC_iff r]
      simp only [Bool.and_eq_true, decide_eq_true_eq, Bool.not_eq_true'] at hb
      obtain ⟨⟨c0, c15⟩, hf⟩ := hb
      simp only [List.nodup_cons, List.mem_cons, forall_eq_or_imp, upd, Nat.zero_add, Nat.mul_one]
      constructor
      · rintro ⟨h1, h2⟩
        refine ⟨⟨⟨⟨c0, c15⟩, hf⟩, fun x hx => ⟨(h1 x hx).1, ?_⟩⟩, ?_, h2⟩
        · have := (h1 x hx).2
          cases e : (x.toNat == c.toNat) with
          | true => rw [e] at this; cases this
          | false => rw [e] at this; exact this
        · intro hc
          have := (h1 c hc).2
          rw [beq_t rfl] at this; cases this
      · rintro ⟨⟨_, h1⟩, h2, h3⟩
        refine ⟨fun x hx => ⟨(h1 x hx).1, ?_⟩, h3⟩
        have hne : x ≠ c := fun e => h2 (e ▸ hx)
        have := (h1 x hx).1
        rw [beq_f (show x.toNat ≠ c.toNat by omega)]
        exact (h1 x hx).2
def colsB (cols : List Int) : Bool := (goC (fun _ => false) cols).isSome
theorem colsB_iff (cols : List Int) : colsB cols = true ↔ (∀ c ∈ cols, 0 ≤ c ∧ c ≤ 15) ∧ cols.Nodup := by
  unfold colsB
  rw [goC_iff]
  simp
def rowB (n : Nat) (r : List Val) : Bool := decide (r.length = n) && r.all mayV
def mayB (c : List Int) (r : List (List Val)) : Bool := colsB c && r.all (rowB c.length) && decide (r.length ≤ 5000)
theorem w_mayB1 (v : Val) : wc W n_bag_May_1 [v.pv] = some (.bool (!mayV v)) := by
  have h := e_bag_May_1 v.K v.N
  rw [Val.fold] at h
  rw [h, w_val_May]; rfl
theorem w_bag_May (c : List Int) (r : List (List Val)) (hc : c.length ≤ 9223372036854775807) (hr : r.length ≤ 9223372036854775807) (hl : ∀ x ∈ r, x.length ≤ 9223372036854775807) : wc W n_bag_May [bagp c r] = some (.bool (mayB c r)) := by
  have h := e_bag_May (c.map intp) (r.map rowp)
  rw [intsp_fold, tabp_fold, bagp_fold] at h
  have h1 := may1_loop c (r.map rowp) hc c.length 0 (fun _ => false) (by omega)
  rw [List.drop_zero] at h1
  rw [h, List.length_map]
  refine h1.trans ?_
  unfold mayB colsB
  cases hg : goC (fun _ => false) c with
  | none => rfl
  | some f =>
    simp only [Option.isSome_some, Bool.true_and, List.length_map]
    rw [loop_all (fun i => M2 (c.map intp) (r.map rowp) (r.map rowp) (r.length : Int) i f) r.length (fun i => (r[i]?).all (rowB c.length)) (some (.bool false)) (some (.bool (decide (r.length ≤ 5000)))) ?_ ?_, all_get]
    · cases r.all (rowB c.length) <;> rfl
    · intro i hi
      unfold M2
      rw [L_bag_May_2_eq]
      simp only [List.length_map, lt_len hi, nat_le, cond_true, Int.toNat_natCast, List.getElem?_map, List.getElem?_eq_getElem hi, Option.map_some, Option.bind_some, c_rowp, rowp_fold, Option.all_some, w_anyVal r[i] n_bag_May_1 [] [] (fun v => !mayV v) (hl _ (List.getElem_mem hi)) (fun x _ => w_mayB1 x), c_b_mk]
      rw [wrap64 (by omega) (by omega)]
      unfold rowB
      by_cases e : r[i].length = c.length
      · rw [bne_f (by rw [e]), decide_eq_true e, ← any_not]
        cases r[i].any fun v => !mayV v <;> rfl
      · rw [bne_t (by omega), decide_eq_false e]; rfl
    · unfold M2
      rw [L_bag_May_2_eq]
      simp only [List.length_map, ge_len, cond_false]
      congr 2
      have : ((r.length : Int) ≤ 5000) = (r.length ≤ 5000) := by apply propext; omega
      simp only [this]
theorem cat_len {α : Type} (ls : List (List α)) (i : Nat) (hi : i < ls.length) : (ls.drop i).flatten.length = ls[i].length + (ls.drop (i + 1)).flatten.length := by
  rw [List.drop_eq_getElem_cons hi, List.flatten_cons, List.length_append]
theorem grow_int (n : Nat) (h : n ≤ 4294967296) : W n_slices_Grow_int_int true [.nil 0, .pv (.int .i64 (n : Int))] [] = some (.view 0 0 none, [.row false 0 0 []]) := by
  rw [o_slices_Grow_int_int_r0_1, decide_eq_false (show ¬ (n : Int) < 0 by omega)]
  simp only [cond_false, J_slices_Grow_int_int_r0_1_eq]
  rw [wrap64 (by omega) (by omega)]
  by_cases h0 : (n : Int) - 0 > 0
  · rw [decide_eq_true h0, decide_eq_true (show (n : Int) - 0 ≤ 4294967296 by omega)]
    have : decide ((0 : Int) < (n : Int) - 0) = true := decide_eq_true h0
    simp
  · rw [decide_eq_false h0]; rfl
theorem catI1 (ls : List (List Int)) (hn : ls.length ≤ 4294967296) (hl : ls.flatten.length ≤ 4294967296) : ∀ (k i s : Nat), i + k = ls.length → s + (ls.drop i).flatten.length = ls.flatten.length →
    L_slices_Concat_int_int_1 (ls.map intsp) (s : Int) (ls.map intsp) (ls.length : Int) (i : Int) = L_slices_Concat_int_int_2 (ls.map intsp) (ls.length : Int) 0 []
  | 0, i, s, h, hs => by
    rw [L_slices_Concat_int_int_1_eq, show i = ls.length by omega]
    simp only [ge_len, cond_false, grow_int s (by omega), Option.bind_some, List.length_map]
    rfl
  | k + 1, i, s, h, hs => by
    have hi : i < ls.length := by omega
    have hc := cat_len ls i hi
    rw [L_slices_Concat_int_int_1_eq]
    simp only [lt_len hi, nat_le, cond_true, Int.toNat_natCast, List.getElem?_map, List.getElem?_eq_getElem hi, Option.map_some, Option.bind_some, c_intsp, List.length_map]
    rw [show IntKind.wrap .i64 ((s : Int) + (ls[i].length : Int)) = ((s + ls[i].length : Nat) : Int) by rw [wrap64 (by omega) (by omega)]; omega, decide_eq_false (by omega), wrap_succ (by omega)]
    exact catI1 ls hn hl k (i + 1) (s + ls[i].length) (by omega) (by omega)
theorem catI2 (ls : List (List Int)) (hn : ls.length ≤ 4294967296) : ∀ (k i : Nat) (acc : List Int), i + k = ls.length → acc.length + (ls.drop i).flatten.length ≤ 4294967296 →
    L_slices_Concat_int_int_2 (ls.map intsp) (ls.length : Int) (i : Int) (acc.map intp) = some (intsp (acc ++ (ls.drop i).flatten))
  | 0, i, acc, h, hl => by
    rw [L_slices_Concat_int_int_2_eq, show i = ls.length by omega]
    simp
  | k + 1, i, acc, h, hl => by
    have hi : i < ls.length := by omega
    have hc := cat_len ls i hi
    rw [L_slices_Concat_int_int_2_eq]
    simp only [lt_len hi, nat_le, cond_true, Int.toNat_natCast, List.getElem?_map, List.getElem?_eq_getElem hi, Option.map_some, Option.bind_some, c_intsp, List.length_map, Bool.true_and, decide_eq_true (show acc.length + ls[i].length ≤ 4294967296 by omega)]
    rw [wrap_succ (by omega)]
    have := catI2 ls hn k (i + 1) (acc ++ ls[i]) (by omega) (by simp only [List.length_append]; omega)
    rw [List.map_append] at this
    rw [this, List.drop_eq_getElem_cons hi, List.flatten_cons, List.append_assoc]
theorem w_ConcatI (ls : List (List Int)) (hn : ls.length ≤ 4294967296) (hl : ls.flatten.length ≤ 4294967296) : wc W n_slices_Concat_int_int [.slice 0 (ls.map intsp)] = some (intsp ls.flatten) := by
  rw [e_slices_Concat_int_int, List.length_map]
  refine (catI1 ls hn hl ls.length 0 0 (by omega) (by simp)).trans ?_
  have := catI2 ls hn ls.length 0 [] (by omega) (by simpa using hl)
  simpa using this
theorem grow_val (n : Nat) (h : n ≤ 4294967296) : W n_slices_Grow_api_Val_api_Val true [.nil 3, .pv (.int .i64 (n : Int))] [] = some (.view 0 0 none, [.row false 0 3 []]) := by
  rw [o_slices_Grow_api_Val_api_Val_r0_1, decide_eq_false (show ¬ (n : Int) < 0 by omega)]
  simp only [cond_false, J_slices_Grow_api_Val_api_Val_r0_1_eq]
  rw [wrap64 (by omega) (by omega)]
  by_cases h0 : (n : Int) - 0 > 0
  · rw [decide_eq_true h0, decide_eq_true (show (n : Int) - 0 ≤ 4294967296 by omega)]
    have : decide ((0 : Int) < (n : Int) - 0) = true := decide_eq_true h0
    simp
  · rw [decide_eq_false h0]; rfl
theorem catV1 (ls : List (List Val)) (hn : ls.length ≤ 4294967296) (hl : ls.flatten.length ≤ 4294967296) : ∀ (k i s : Nat), i + k = ls.length → s + (ls.drop i).flatten.length = ls.flatten.length →
    L_slices_Concat_api_Val_api_Val_1 (ls.map rowp) (s : Int) (ls.map rowp) (ls.length : Int) (i : Int) = L_slices_Concat_api_Val_api_Val_2 (ls.map rowp) (ls.length : Int) 0 []
  | 0, i, s, h, hs => by
    rw [L_slices_Concat_api_Val_api_Val_1_eq, show i = ls.length by omega]
    simp only [ge_len, cond_false, grow_val s (by omega), Option.bind_some, List.length_map]
    rfl
  | k + 1, i, s, h, hs => by
    have hi : i < ls.length := by omega
    have hc := cat_len ls i hi
    rw [L_slices_Concat_api_Val_api_Val_1_eq]
    simp only [lt_len hi, nat_le, cond_true, Int.toNat_natCast, List.getElem?_map, List.getElem?_eq_getElem hi, Option.map_some, Option.bind_some, c_rowp, List.length_map]
    rw [show IntKind.wrap .i64 ((s : Int) + (ls[i].length : Int)) = ((s + ls[i].length : Nat) : Int) by rw [wrap64 (by omega) (by omega)]; omega, decide_eq_false (by omega), wrap_succ (by omega)]
    exact catV1 ls hn hl k (i + 1) (s + ls[i].length) (by omega) (by omega)
theorem catV2 (ls : List (List Val)) (hn : ls.length ≤ 4294967296) : ∀ (k i : Nat) (acc : List Val), i + k = ls.length → acc.length + (ls.drop i).flatten.length ≤ 4294967296 →
    L_slices_Concat_api_Val_api_Val_2 (ls.map rowp) (ls.length : Int) (i : Int) (acc.map Val.pv) = some (rowp (acc ++ (ls.drop i).flatten))
  | 0, i, acc, h, hl => by
    rw [L_slices_Concat_api_Val_api_Val_2_eq, show i = ls.length by omega]
    simp
  | k + 1, i, acc, h, hl => by
    have hi : i < ls.length := by omega
    have hc := cat_len ls i hi
    rw [L_slices_Concat_api_Val_api_Val_2_eq]
    simp only [lt_len hi, nat_le, cond_true, Int.toNat_natCast, List.getElem?_map, List.getElem?_eq_getElem hi, Option.map_some, Option.bind_some, c_rowp, List.length_map, Bool.true_and, decide_eq_true (show acc.length + ls[i].length ≤ 4294967296 by omega)]
    rw [wrap_succ (by omega)]
    have := catV2 ls hn k (i + 1) (acc ++ ls[i]) (by omega) (by simp only [List.length_append]; omega)
    rw [List.map_append] at this
    rw [this, List.drop_eq_getElem_cons hi, List.flatten_cons, List.append_assoc]
theorem w_ConcatV (ls : List (List Val)) (hn : ls.length ≤ 4294967296) (hl : ls.flatten.length ≤ 4294967296) : wc W n_slices_Concat_api_Val_api_Val [.slice 0 (ls.map rowp)] = some (rowp ls.flatten) := by
  rw [e_slices_Concat_api_Val_api_Val, List.length_map]
  refine (catV1 ls hn hl ls.length 0 0 (by omega) (by simp)).trans ?_
  have := catV2 ls hn ls.length 0 [] (by omega) (by simpa using hl)
  simpa using this
def prodR (r s : List (List Val)) : List (List Val) := r.flatMap fun x => s.map fun y => x ++ y
theorem cross3 (C D E F : List PV) (x : List Val) (A : List PV) (n i : Int) (s : List (List Val)) (hx : x.length ≤ 100) (hs : ∀ y ∈ s, y.length ≤ 100) (hsn : s.length ≤ 5000) (X Y : List PV) : ∀ (k j : Nat) (acc : List (List Val)), j + k = s.length → acc.length + k ≤ 4294967295 →
    L_bag_Cross_3 C D (x.map Val.pv) A n i (s.map rowp) (s.length : Int) (j : Int) X Y E (acc.map rowp) = L_bag_Cross_2 C D A n (IntKind.wrap .i64 (i + 1)) X Y E ((acc ++ (s.drop j).map fun y => x ++ y).map rowp)
  | 0, j, acc, h, hl => by
    rw [L_bag_Cross_3_eq, show j = s.length by omega]
    simp
  | k + 1, j, acc, h, hl => by
    have hj : j < s.length := by omega
    have hy := hs _ (List.getElem_mem hj)
    rw [L_bag_Cross_3_eq]
    have hc := w_ConcatV [x, s[j]] (by simp) (by simp; omega)
    simp only [List.map_cons, List.map_nil, List.flatten_cons, List.flatten_nil, List.append_nil] at hc
    simp only [lt_len hj, nat_le, cond_true, Int.toNat_natCast, List.getElem?_map, List.getElem?_eq_getElem hj, Option.map_some, Option.bind_some, c_rowp, rowp_fold, hc, List.length_map, Bool.true_and, decide_eq_true (show acc.length + 1 ≤ 4294967296 by omega)]
    rw [wrap_succ (by omega)]
    have := cross3 C D E F x A n i s hx hs hsn X Y k (j + 1) (acc ++ [x ++ s[j]]) (by omega) (by simp; omega)
    simp only [List.map_append, List.map_cons, List.map_nil] at this
    simp only [rowp, List.map_append] at this ⊢
    rw [this, List.drop_eq_getElem_cons hj]
    simp only [List.map_cons, List.append_assoc, List.cons_append, List.nil_append, rowp, List.map_append]
theorem cross2 (C D E F : List PV) (r s : List (List Val)) (hr : ∀ x ∈ r, x.length ≤ 100) (hs : ∀ y ∈ s, y.length ≤ 100) (hl : r.length ≤ 5000) (hsn : s.length ≤ 5000) (X Y : List PV) : ∀ (k i : Nat) (acc : List (List Val)), i + k = r.length → acc.length + (prodR (r.drop i) s).length ≤ 4294967295 →
    L_bag_Cross_2 C (s.map rowp) (r.map rowp) (r.length : Int) (i : Int) X Y E (acc.map rowp) = some (.tup [.agg [.slice 0 E, tabp (acc ++ prodR (r.drop i) s)], .bool true])
  | 0, i, acc, h, hb => by
    rw [L_bag_Cross_2_eq, show i = r.length by omega]
    simp [prodR]
  | k + 1, i, acc, h, hb => by
    have hi : i < r.length := by omega
    have hp : prodR (r.drop i) s = (s.map fun y => r[i] ++ y) ++ prodR (r.drop (i + 1)) s := by
      rw [List.drop_eq_getElem_cons hi]; rfl
    rw [hp] at hb ⊢
    simp only [List.length_append, List.length_map] at hb
    rw [L_bag_Cross_2_eq]
    simp only [lt_len hi, nat_le, cond_true, Int.toNat_natCast, List.getElem?_map, List.getElem?_eq_getElem hi, Option.map_some, Option.bind_some, c_rowp, List.length_map]
    have h3 := cross3 C (s.map rowp) E F r[i] (r.map rowp) (r.length : Int) (i : Int) s (hr _ (List.getElem_mem hi)) hs hsn X Y s.length 0 acc (by omega) (by omega)
    refine h3.trans ?_
    rw [wrap_succ (by omega), List.drop_zero]
    have := cross2 C D E F r s hr hs hl hsn X Y k (i + 1) (acc ++ s.map fun y => r[i] ++ y) (by omega) (by simp only [List.length_append, List.length_map]; omega)
    rw [this, List.append_assoc]
def crossB (c : List Int) (r : List (List Val)) (d : List Int) (s : List (List Val)) : Option (List Int × List (List Val)) :=
  bif mayB c r && mayB d s && mayB (c ++ d) [] && decide (r.length * s.length ≤ 5000) then some (c ++ d, prodR r s) else none
def bagR (x : Option (List Int × List (List Val))) : PV := match x with | some b => .tup [bagp b.1 b.2, .bool true] | none => .tup [bagp [] [], .bool false]
theorem colsB_len {c : List Int} (h : colsB c = true) : c.length ≤ 16 := by
  obtain ⟨h1, h2⟩ := (colsB_iff c).1 h
  have hsub : c ⊆ (List.range 16).map fun n : Nat => (n : Int) := by
    intro x hx
    have := h1 x hx
    rw [List.mem_map]
    exact ⟨x.toNat, by simp; omega, by omega⟩
  have := List.Nodup.length_le_of_subset h2 hsub
  simpa using this
theorem mayB_row {c : List Int} {r : List (List Val)} (h : mayB c r = true) : c.length ≤ 16 ∧ r.length ≤ 5000 ∧ ∀ x ∈ r, x.length = c.length ∧ x.all mayV = true := by
  unfold mayB at h
  simp only [Bool.and_eq_true, decide_eq_true_eq, List.all_eq_true] at h
  refine ⟨colsB_len h.1.1, h.2, fun x hx => ?_⟩
  have := h.1.2 x hx
  unfold rowB at this
  simp only [Bool.and_eq_true, decide_eq_true_eq] at this
  exact this
theorem prodR_len (r s : List (List Val)) : (prodR r s).length = r.length * s.length := by
  unfold prodR
  induction r with
  | nil => simp
  | cons a r ih => rw [List.flatMap_cons, List.length_append, ih, List.length_map, List.length_cons, Nat.succ_mul]; omega
theorem w_Cross (c : List Int) (r : List (List Val)) (d : List Int) (s : List (List Val)) (hcd : c.length + d.length ≤ 4294967296) (hr : r.length ≤ 9223372036854775807) (hs : s.length ≤ 9223372036854775807)
    (hrl : ∀ x ∈ r, x.length ≤ 9223372036854775807) (hsl : ∀ x ∈ s, x.length ≤ 9223372036854775807) : wc W n_bag_Cross [bagp c r, bagp d s] = some (bagR (crossB c r d s)) := by
  have h := e_bag_Cross (c.map intp) (r.map rowp) (d.map intp) (s.map rowp)
  rw [intsp_fold, intsp_fold, tabp_fold, tabp_fold, bagp_fold, bagp_fold] at h
  have hc := w_ConcatI [c, d] (by simp) (by simpa using hcd)
  simp only [List.map_cons, List.map_nil, List.flatten_cons, List.flatten_nil, List.append_nil] at hc
  have e0 : PV.agg [intsp (c ++ d), PV.slice 0 []] = bagp (c ++ d) [] := rfl
  rw [h, hc]
  simp only [Option.bind_some, c_intsp, intsp_fold, e0, w_bag_May c r (by omega) hr hrl, w_bag_May d s (by omega) hs hsl, w_bag_May (c ++ d) [] (by simp; omega) (by simp) (by simp), c_b_mk, List.length_map]
  unfold crossB
  cases h1 : mayB c r with
  | false => rfl
  | true =>
    cases h2 : mayB d s with
    | false => rfl
    | true =>
      cases h3 : mayB (c ++ d) [] with
      | false => rfl
      | true =>
        obtain ⟨a1, a2, a3⟩ := mayB_row h1
        obtain ⟨b1, b2, b3⟩ := mayB_row h2
        have hm : r.length * s.length ≤ 5000 * 5000 := Nat.mul_le_mul a2 b2
        have hw : IntKind.wrap .i64 ((r.length : Int) * (s.length : Int)) = ((r.length * s.length : Nat) : Int) := by
          rw [← Int.natCast_mul, wrap64 (by omega) (by omega)]
        rw [hw]
        by_cases h4 : r.length * s.length ≤ 5000
        · rw [decide_eq_true h4, decide_eq_false (show ¬ ((r.length * s.length : Nat) : Int) > 5000 by omega)]
          simp only [Bool.not_true, cond_false, Bool.and_self, cond_true, J_bag_Cross_1_eq, List.length_map]
          have := cross2 (d.map intp) [] ((c ++ d).map intp) [] r s (fun x hx => by have := (a3 x hx).1; omega) (fun x hx => by have := (b3 x hx).1; omega) a2 b2 [] [] r.length 0 [] (by omega) (by rw [List.drop_zero, prodR_len]; simp; omega)
          simp only [List.map_nil, List.drop_zero, List.nil_append] at this
          exact this
        · rw [decide_eq_false h4, decide_eq_true (show ((r.length * s.length : Nat) : Int) > 5000 by omega)]
          rfl
end Go.Cf

namespace Go.Cf
open Go Go.Ab
set_option linter.unusedVariables false
set_option linter.unusedSimpArgs false
def badV : Val := ⟨2, 0⟩
def VOk (v : Val) : Prop := I64 v.K ∧ I64 v.N
def lookR (cols : List Int) (row : List Val) (c : Int) : Val := bif decide (idxI cols (fun x => c == x) < 0) then badV else bif decide (idxI cols (fun x => c == x) ≥ (row.length : Int)) then badV else row.getD (idxI cols (fun x => c == x)).toNat badV
theorem w_Index (l : List Int) (n : Int) (hl : l.length ≤ 9223372036854775807) : wc W n_slices_Index_int_int [intsp l, .int .i64 n] = some (.int .i64 (idxI l (fun x => n == x))) := by
  have h := e_slices_Index_int_int (l.map intp) n
  rw [intsp_fold] at h
  rw [h, List.length_map]
  refine loop_idx (fun i => L_slices_Index_int_int_1 (l.map intp) n l.length i) l (fun x => n == x) (fun n => some (.int .i64 n)) (fun i hi => ?_) ?_
  · rw [L_slices_Index_int_int_1_eq]
    simp only [lt_len hi, nat_le, cond_true, Int.toNat_natCast, List.getElem?_map, List.getElem?_eq_getElem hi, Option.map_some, Option.bind_some, c_intp]
    rw [wrap64 (by omega) (by omega)]
  · rw [L_slices_Index_int_int_1_eq]; simp
def fewB (c : List Int) (r : List (List Val)) (m : Nat) : Bool := decide (r.length ≤ m) && decide (c.length ≤ 20) && r.all fun x => decide (x.length ≤ 20)
theorem w_few (c : List Int) (r : List (List Val)) (m : Nat) (hr : r.length ≤ 9223372036854775807) : wc W n_roadbooklaw03_few [bagp c r, .int .i64 (m : Int)] = some (.bool (fewB c r m)) := by
  have h := e_roadbooklaw03_few (c.map intp) (r.map rowp) (m : Int)
  rw [intsp_fold, tabp_fold, bagp_fold] at h
  rw [h, List.length_map, List.length_map]
  unfold fewB
  by_cases h1 : r.length ≤ m
  · rw [decide_eq_true h1, decide_eq_false (show ¬ (r.length : Int) > (m : Int) by omega)]
    by_cases h2 : c.length ≤ 20
    · rw [decide_eq_true h2, decide_eq_false (show ¬ (c.length : Int) > 20 by omega)]
      simp only [cond_false, Bool.and_self, Bool.true_and, J_roadbooklaw03_few_1_eq]
      rw [loop_all (fun i => L_roadbooklaw03_few_2 (c.map intp) (r.map rowp) i) r.length (fun i => (r[i]?).all fun x => decide (x.length ≤ 20)) (some (.bool false)) (some (.bool true)) ?_ ?_, all_get]
      · cases r.all fun x => decide (x.length ≤ 20) <;> rfl
      · intro i hi
        rw [L_roadbooklaw03_few_2_eq]
        simp only [List.length_map, lt_len hi, nat_le, cond_true, Int.toNat_natCast, List.getElem?_map, List.getElem?_eq_getElem hi, Option.map_some, Option.bind_some, c_rowp, Option.all_some]
        rw [wrap64 (by omega) (by omega)]
        by_cases h3 : r[i].length ≤ 20
        · rw [decide_eq_true h3, decide_eq_false (show ¬ (r[i].length : Int) > 20 by omega)]; rfl
        · rw [decide_eq_false h3, decide_eq_true (show (r[i].length : Int) > 20 by omega)]; rfl
      · rw [L_roadbooklaw03_few_2_eq]; simp only [List.length_map, ge_len, cond_false]
    · rw [decide_eq_false h2, decide_eq_true (show (c.length : Int) > 20 by omega)]
      simp
  · rw [decide_eq_false h1, decide_eq_true (show (r.length : Int) > (m : Int) by omega)]
    simp
theorem fewB_of {c : List Int} {r : List (List Val)} {m : Nat} (h : fewB c r m = true) : r.length ≤ m ∧ c.length ≤ 20 ∧ ∀ x ∈ r, x.length ≤ 20 := by
  unfold fewB at h
  simp only [Bool.and_eq_true, decide_eq_true_eq, List.all_eq_true] at h
  exact ⟨h.1.1, h.1.2, h.2⟩
theorem loop_all2 {α : Type} [DecidableEq α] {R : Type} (L : Int → Option R) (a b : List α) (e : a.length = b.length) (r s : Option R) (hs : ∀ i : Nat, ∀ (h : i < a.length) (h' : i < b.length), L (i : Int) = bif decide (a[i] = b[i]) then L ((i : Int) + 1) else r) (he : L (a.length : Int) = s) :
    L 0 = bif decide (a = b) then s else r := by
  rw [loop_all L a.length (fun i => decide (a[i]? = b[i]?)) r s (fun i hi => ?_) he, all_eq a b e]
  have hi' : i < b.length := by omega
  rw [hs i hi hi', List.getElem?_eq_getElem hi, List.getElem?_eq_getElem hi']
  simp only [Option.some.injEq]
theorem w_Ints (a b : List Int) (ha : a.length ≤ 9223372036854775807) : wc W n_roadbookref02_Ints [intsp a, intsp b] = some (.bool (decide (a = b))) := by
  have h := e_roadbookref02_Ints (a.map intp) (b.map intp)
  rw [intsp_fold, intsp_fold] at h
  rw [h, List.length_map, List.length_map]
  by_cases e : a.length = b.length
  · rw [bne_f (by rw [e]), cond_false]
    rw [loop_all2 (fun i => L_roadbookref02_Ints_1 (a.map intp) (b.map intp) i) a b e (some (.bool false)) (some (.bool true)) ?_ ?_]
    · cases decide (a = b) <;> rfl
    · intro i hi hi'
      rw [L_roadbookref02_Ints_1_eq]
      simp only [List.length_map, lt_len hi, nat_le, cond_true, Int.toNat_natCast, List.getElem?_map, List.getElem?_eq_getElem hi, List.getElem?_eq_getElem hi', Option.map_some, Option.bind_some, c_intp]
      rw [wrap64 (by omega) (by omega)]
      by_cases h : a[i] = b[i]
      · rw [bne_f h, decide_eq_true h]; rfl
      · rw [bne_t h, decide_eq_false h]; rfl
    · rw [L_roadbookref02_Ints_1_eq]; simp only [List.length_map, ge_len, cond_false]
  · rw [bne_t (by omega), decide_eq_false (fun h => e (by rw [h]))]; rfl
theorem w_RowR (a b : List Val) (ha : a.length ≤ 9223372036854775807) : wc W n_roadbookref03_Row [rowp a, rowp b] = some (.bool (decide (a = b))) := by
  have h := e_roadbookref03_Row (a.map Val.pv) (b.map Val.pv)
  rw [rowp_fold, rowp_fold] at h
  rw [h, List.length_map, List.length_map]
  by_cases e : a.length = b.length
  · rw [bne_f (by rw [e]), cond_false]
    rw [loop_all2 (fun i => L_roadbookref03_Row_1 (a.map Val.pv) (b.map Val.pv) i) a b e (some (.bool false)) (some (.bool true)) ?_ ?_]
    · cases decide (a = b) <;> rfl
    · intro i hi hi'
      rw [L_roadbookref03_Row_1_eq]
      simp only [List.length_map, lt_len hi, nat_le, cond_true, Int.toNat_natCast, List.getElem?_map, List.getElem?_eq_getElem hi, List.getElem?_eq_getElem hi', Option.map_some, Option.bind_some, Val.c_mk]
      rw [wrap64 (by omega) (by omega)]
      have key : ∀ x y : Val, ((bif (x.K == y.K) then (bif (x.N == y.N) then (some true) else (some false)) else (some false)) : Option Bool) = some (decide (x = y)) := fun x y => by
        cases x; cases y
        simp only [Val.mk.injEq]
        rw [Bool.decide_and]
        rename_i k n k' n'
        show _ = some ((k == k') && (n == n'))
        cases k == k' <;> cases n == n' <;> rfl
      rw [key]
      simp only [Option.bind_some, c_b_mk]
      cases decide (a[i] = b[i]) <;> rfl
    · rw [L_roadbookref03_Row_1_eq]; simp only [List.length_map, ge_len, cond_false]
  · rw [bne_t (by omega), decide_eq_false (fun h => e (by rw [h]))]; rfl
theorem w_Like (c : List Int) (r : List (List Val)) (d : List Int) (s : List (List Val)) (hc : c.length ≤ 9223372036854775807) (hr : r.length ≤ 9223372036854775807) (hl : ∀ x ∈ r, x.length ≤ 9223372036854775807) :
    wc W n_roadbookref03_Like [bagp c r, bagp d s] = some (.bool (decide (c = d) && decide (r = s))) := by
  have h := e_roadbookref03_Like (c.map intp) (r.map rowp) (d.map intp) (s.map rowp)
  rw [intsp_fold, intsp_fold, tabp_fold, tabp_fold, bagp_fold, bagp_fold] at h
  rw [h, w_Ints c d hc, List.length_map, List.length_map]
  simp only [Option.bind_some, c_b_mk]
  cases decide (c = d) with
  | false => rfl
  | true =>
    simp only [Bool.not_true, cond_false, Bool.true_and]
    by_cases e : r.length = s.length
    · rw [bne_f (by rw [e]), cond_false, J_roadbookref03_Like_1_eq]
      rw [loop_all2 (fun i => L_roadbookref03_Like_2 (c.map intp) (r.map rowp) (d.map intp) (s.map rowp) i) r s e (some (.bool false)) (some (.bool true)) ?_ ?_]
      · cases decide (r = s) <;> rfl
      · intro i hi hi'
        rw [L_roadbookref03_Like_2_eq]
        simp only [List.length_map, lt_len hi, nat_le, cond_true, Int.toNat_natCast, List.getElem?_map, List.getElem?_eq_getElem hi, List.getElem?_eq_getElem hi', Option.map_some, Option.bind_some, c_rowp, rowp_fold, w_RowR _ _ (hl _ (List.getElem_mem hi)), c_b_mk]
        rw [wrap64 (by omega) (by omega)]
        cases decide (r[i] = s[i]) <;> rfl
      · rw [L_roadbookref03_Like_2_eq]; simp only [List.length_map, ge_len, cond_false]
    · rw [bne_t (by omega), decide_eq_false (fun h => e (by rw [h]))]; rfl
theorem lookR_ok (cols : List Int) {row : List Val} (h : ∀ v ∈ row, VOk v) (c : Int) : VOk (lookR cols row c) := by
  have hb : VOk badV := ⟨⟨by decide, by decide⟩, ⟨by decide, by decide⟩⟩
  unfold lookR
  cases decide (idxI cols (fun x => c == x) < 0) with
  | true => exact hb
  | false =>
    cases decide (idxI cols (fun x => c == x) ≥ (row.length : Int)) with
    | true => exact hb
    | false =>
      simp only [cond_false]
      rw [List.getD_eq_getElem?_getD]
      cases hr : row[(idxI cols (fun x => c == x)).toNat]? with
      | none => exact hb
      | some v => exact h v (List.mem_of_getElem? hr)
def ROk (r : List Val) : Prop := ∀ v ∈ r, VOk v
def inC (c : List Int) (x : Int) : Bool := decide (x ∈ c)
theorem idxI_lt {c : List Int} {x : Int} : decide (idxI c (fun y => x == y) < 0) = !inC c x := by
  have h := idxI_any c (fun y => x == y)
  have h2 : c.any (fun y => x == y) = inC c x := by
    unfold inC
    rw [Bool.eq_iff_iff, List.any_eq_true, decide_eq_true_eq]
    constructor
    · rintro ⟨y, hy, e⟩; rw [beq_iff_eq] at e; subst e; exact hy
    · intro h; exact ⟨x, h, by simp⟩
  rw [h2] at h
  rw [← h]
  by_cases hh : idxI c (fun y => x == y) < 0
  · rw [decide_eq_true hh, decide_eq_false (by omega)]; rfl
  · rw [decide_eq_false hh, decide_eq_true (by omega)]; rfl
theorem idxI_len (c : List Int) (x : Int) : idxI c (fun y => x == y) < (c.length : Int) := by
  unfold idxI
  cases h : c.findIdx? (fun y => x == y) with
  | none => simp only; omega
  | some i =>
    obtain ⟨hi, _⟩ := List.findIdx?_eq_some_iff_getElem.1 h
    simp only; omega
theorem lookR_in {c : List Int} {row : List Val} {x : Int} (h : inC c x = true) (hl : row.length = c.length) : (row[(idxI c (fun y => x == y)).toNat]? = some (lookR c row x)) ∧ 0 ≤ idxI c (fun y => x == y) := by
  have h1 : decide (idxI c (fun y => x == y) < 0) = false := by rw [idxI_lt, h]; rfl
  have h2 := of_decide_eq_false h1
  have h3 := idxI_len c x
  refine ⟨?_, by omega⟩
  unfold lookR
  rw [h1, decide_eq_false (show ¬ idxI c (fun y => x == y) ≥ (row.length : Int) by omega)]
  have hlt : (idxI c (fun y => x == y)).toNat < row.length := by omega
  simp only [cond_false, List.getElem?_eq_getElem hlt, List.getD_eq_getElem?_getD, Option.getD_some]
def atC (c cols : List Int) : List Int := cols.map fun x => idxI c (fun y => x == y)
def pickR (c cols : List Int) (row : List Val) : List Val := cols.map (lookR c row)
theorem pick4 (c cols : List Int) (row : List Val) (hl : row.length = c.length) (hin : ∀ x ∈ cols, inC c x = true) (hn : cols.length ≤ 100) (A : List PV) (n i : Int) (X Y Z : List PV) (out : List (List Val)) (ho : out.length ≤ 4294967295) : ∀ (k j : Nat) (acc : List Val), j + k = cols.length → acc.length = j →
    L_bag_Pick_4 (row.map Val.pv) A n i (cols.length : Int) (j : Int) ((atC c cols).map intp) X Y Z (out.map rowp) (acc.map Val.pv) =
      L_bag_Pick_3 A n (IntKind.wrap .i64 (i + 1)) ((atC c cols).map intp) X Y Z ((out ++ [acc ++ (cols.drop j).map (lookR c row)]).map rowp)
  | 0, j, acc, h, ha => by
    rw [L_bag_Pick_4_eq, show j = cols.length by omega]
    simp only [ge_len, cond_false, List.length_map, Bool.true_and, decide_eq_true (show out.length + 1 ≤ 4294967296 by omega), cond_true, List.drop_length, List.map_nil, List.append_nil, List.map_append, List.map_cons]
    rfl
  | k + 1, j, acc, h, ha => by
    have hj : j < cols.length := by omega
    have hj2 : j < (atC c cols).length := by unfold atC; rw [List.length_map]; exact hj
    obtain ⟨h1, h2⟩ := lookR_in (hin _ (List.getElem_mem hj)) hl
    have he : (atC c cols)[j] = idxI c (fun y => cols[j] == y) := by simp only [atC, List.getElem_map]
    have hlen : ((atC c cols).map intp).length = cols.length := by unfold atC; rw [List.length_map, List.length_map]
    rw [L_bag_Pick_4_eq, hlen]
    simp only [lt_len hj, nat_le, Bool.and_self, cond_true, Int.toNat_natCast, Nat.zero_add, List.getElem?_map, List.getElem?_eq_getElem hj2, Option.map_some, Option.bind_some, c_intp, he, decide_eq_true h2, h1, Val.c_mk, Val.fold, List.length_map, Bool.true_and, decide_eq_true (show acc.length + 1 ≤ 4294967296 by omega)]
    rw [wrap_succ (by omega)]
    have := pick4 c cols row hl hin hn A n i X Y Z out ho k (j + 1) (acc ++ [lookR c row cols[j]]) (by omega) (by rw [List.length_append, List.length_singleton]; omega)
    rw [List.map_append] at this
    rw [List.append_assoc, List.singleton_append] at this
    rw [List.drop_eq_getElem_cons hj, List.map_cons]
    exact this
theorem pick3 (c cols : List Int) (r : List (List Val)) (hl : ∀ x ∈ r, x.length = c.length) (hin : ∀ x ∈ cols, inC c x = true) (hn : cols.length ≤ 100) (hr : r.length ≤ 4294967295) (X Y : List PV) : ∀ (k i : Nat) (acc : List (List Val)), i + k = r.length → acc.length = i →
    L_bag_Pick_3 (r.map rowp) (r.length : Int) (i : Int) ((atC c cols).map intp) X Y (cols.map intp) (acc.map rowp) = some (.tup [bagp cols (acc ++ (r.drop i).map (pickR c cols)), .bool true])
  | 0, i, acc, h, ha => by
    rw [L_bag_Pick_3_eq, show i = r.length by omega]
    simp [ge_len]
  | k + 1, i, acc, h, ha => by
    have hi : i < r.length := by omega
    rw [L_bag_Pick_3_eq]
    have hlen : ((atC c cols).map intp).length = cols.length := by unfold atC; rw [List.length_map, List.length_map]
    simp only [lt_len hi, nat_le, cond_true, Int.toNat_natCast, List.getElem?_map, List.getElem?_eq_getElem hi, Option.map_some, Option.bind_some, c_rowp, hlen]
    have h4 := pick4 c cols r[i] (hl _ (List.getElem_mem hi)) hin hn (r.map rowp) (r.length : Int) (i : Int) X Y (cols.map intp) acc (by omega) cols.length 0 [] (by omega) rfl
    refine h4.trans ?_
    rw [wrap_succ (by omega), List.drop_zero, List.nil_append]
    have := pick3 c cols r hl hin hn hr X Y k (i + 1) (acc ++ [cols.map (lookR c r[i])]) (by omega) (by rw [List.length_append, List.length_singleton]; omega)
    rw [this, List.drop_eq_getElem_cons hi, List.map_cons, List.append_assoc]
    rfl
theorem pick2 (c cols : List Int) (r : List (List Val)) (hl : ∀ x ∈ r, x.length = c.length) (hc : c.length ≤ 100) (hn : cols.length ≤ 100) (hr : r.length ≤ 4294967295) : ∀ (k i : Nat), i + k = cols.length → (∀ x ∈ cols.take i, inC c x = true) →
    L_bag_Pick_2 (cols.map intp) (c.map intp) (r.map rowp) (cols.map intp) (cols.length : Int) (i : Int) ((atC c (cols.take i)).map intp) =
      bif (cols.drop i).all (inC c) then some (.tup [bagp cols (r.map (pickR c cols)), .bool true]) else some (.tup [bagp [] [], .bool false])
  | 0, i, h, hin => by
    rw [L_bag_Pick_2_eq, show i = cols.length by omega]
    have hcl := x_slices_Clone_int_int (cols.map intp) (by rw [List.length_map]; omega)
    rw [intsp_fold] at hcl
    rw [show i = cols.length by omega, List.take_length] at hin
    simp only [ge_len, cond_false, List.drop_length, List.all_nil, cond_true, List.take_length, intsp_fold, hcl, Option.bind_some, c_intsp, List.length_map]
    have := pick3 c cols r hl hin hn hr [] [] r.length 0 [] (by omega) rfl
    simpa using this
  | k + 1, i, h, hin => by
    have hi : i < cols.length := by omega
    rw [L_bag_Pick_2_eq, List.drop_eq_getElem_cons hi, List.all_cons]
    simp only [lt_len hi, nat_le, cond_true, Int.toNat_natCast, List.getElem?_map, List.getElem?_eq_getElem hi, Option.map_some, Option.bind_some, c_intp, intsp_fold, w_Index c cols[i] (by omega), c_i64_mk, idxI_lt]
    cases hx : inC c cols[i] with
    | false => rfl
    | true =>
      have ht : (cols.take i).length = i := by rw [List.length_take]; omega
      have hlen : ((atC c (cols.take i)).map intp).length = i := by unfold atC; rw [List.length_map, List.length_map, ht]
      simp only [Bool.not_true, cond_false, Bool.true_and, hlen, decide_eq_true (show i + 1 ≤ 4294967296 by omega), cond_true]
      rw [wrap_succ (by omega)]
      have := pick2 c cols r hl hc hn hr k (i + 1) (by omega) (fun x hx' => by
        rw [List.take_succ_eq_append_getElem hi] at hx'
        rcases List.mem_append.1 hx' with h | h
        · exact hin x h
        · rw [List.mem_singleton] at h; rw [h]; exact hx)
      rw [List.take_succ_eq_append_getElem hi] at this
      unfold atC at this ⊢
      rw [List.map_append, List.map_append] at this
      exact this
def pickB (c : List Int) (r : List (List Val)) (cols : List Int) : Option (List Int × List (List Val)) := bif mayB c r && mayB cols [] && cols.all (inC c) then some (cols, r.map (pickR c cols)) else none
theorem w_Pick (c : List Int) (r : List (List Val)) (cols : List Int) (hc : c.length ≤ 9223372036854775807) (hr : r.length ≤ 9223372036854775807) (hl : ∀ x ∈ r, x.length ≤ 9223372036854775807) (hn : cols.length ≤ 9223372036854775807) :
    wc W n_bag_Pick [bagp c r, intsp cols] = some (bagR (pickB c r cols)) := by
  have h := e_bag_Pick (c.map intp) (r.map rowp) (cols.map intp)
  rw [intsp_fold, tabp_fold, bagp_fold, intsp_fold] at h
  have e0 : PV.agg [intsp cols, PV.slice 0 []] = bagp cols [] := rfl
  rw [h]
  simp only [e0, w_bag_May c r hc hr hl, w_bag_May cols [] hn (by simp) (by simp), Option.bind_some, c_b_mk]
  unfold pickB
  cases h1 : mayB c r with
  | false => rfl
  | true =>
    cases h2 : mayB cols [] with
    | false => rfl
    | true =>
      obtain ⟨a1, a2, a3⟩ := mayB_row h1
      obtain ⟨b1, _, _⟩ := mayB_row h2
      simp only [Bool.not_true, cond_false, Bool.and_self, Bool.true_and, J_bag_Pick_1_eq, List.length_map]
      have := pick2 c cols r (fun x hx => (a3 x hx).1) (by omega) (by omega) (by omega) cols.length 0 (by omega) (by simp)
      rw [List.take_zero, List.drop_zero] at this
      refine this.trans ?_
      cases cols.all (inC c) <;> rfl

theorem w_awake3 : wc W n_roadbooklaw03_awake [] = some (.bool true) := by rw [W_eq]; exact wc_le (evF_evw 40) (by kernel_rfl)
theorem idxI_get {c : List Int} {x : Int} (h : inC c x = true) : c[(idxI c (fun y => x == y)).toNat]? = some x := by
  have h1 : decide (idxI c (fun y => x == y) < 0) = false := by rw [idxI_lt, h]; rfl
  have h2 := of_decide_eq_false h1
  unfold idxI at h2 ⊢
  cases hf : c.findIdx? (fun y => x == y) with
  | none => rw [hf] at h2; simp only at h2; omega
  | some i =>
    obtain ⟨hi, e, _⟩ := List.findIdx?_eq_some_iff_getElem.1 hf
    simp only [Int.toNat_natCast, List.getElem?_eq_getElem hi]
    rw [beq_iff_eq] at e
    rw [e]
theorem look_pick {c cols : List Int} {row : List Val} {y : Int} (h : inC cols y = true) : lookR cols (pickR c cols row) y = lookR c row y := by
  have h1 := (lookR_in (row := pickR c cols row) h (by unfold pickR; rw [List.length_map])).1
  have h2 := idxI_get h
  unfold pickR at h1
  rw [List.getElem?_map, h2, Option.map_some] at h1
  exact (Option.some.inj h1).symm
theorem nodup_idx {α : Type} : ∀ {l : List α}, l.Nodup → ∀ {j k : Nat} {o : α}, l[j]? = some o → l[k]? = some o → j = k
  | [], _, _, _, _, h, _ => by simp at h
  | x :: r, hn, 0, 0, o, h, hk => rfl
  | x :: r, hn, 0, k + 1, o, h, hk => by
    simp only [List.getElem?_cons_zero, Option.some.injEq] at h; subst h
    exact absurd (List.mem_of_getElem? (by simpa using hk)) (List.nodup_cons.1 hn).1
  | x :: r, hn, j + 1, 0, o, h, hk => by
    simp only [List.getElem?_cons_zero, Option.some.injEq] at hk; subst hk
    exact absurd (List.mem_of_getElem? (by simpa using h)) (List.nodup_cons.1 hn).1
  | x :: r, hn, j + 1, k + 1, o, h, hk => by
    exact congrArg (· + 1) (nodup_idx (o := o) (List.nodup_cons.1 hn).2 (by simpa using h) (by simpa using hk))
theorem place_of {is : List Nat} (hn : is.Nodup) {o j : Nat} (h : is[j]? = some o) : place is o = some j := by
  cases hp : place is o with
  | none => exact absurd (List.mem_of_getElem? h) (place_none hp)
  | some k =>
    have hk := place_some hp
    exact congrArg some (nodup_idx hn h hk).symm
theorem look_self {c : List Int} {row : List Val} (hn : c.Nodup) (hl : row.length = c.length) : pickR c c row = row := by
  unfold pickR
  apply List.ext_getElem?
  intro i
  rw [List.getElem?_map]
  by_cases hi : i < c.length
  · rw [List.getElem?_eq_getElem hi, Option.map_some]
    have hin : inC c c[i] = true := by unfold inC; exact decide_eq_true (List.getElem_mem hi)
    have h1 := (lookR_in hin hl).1
    have h2 := idxI_get hin
    have hlt := (List.getElem?_eq_some_iff.1 h2).1
    have e : (idxI c (fun y => c[i] == y)).toNat = i := nodup_idx hn h2 (List.getElem?_eq_getElem hi)
    rw [e] at h1
    exact h1.symm
  · rw [List.getElem?_eq_none (by omega), List.getElem?_eq_none (by omega)]; rfl
theorem mayB_parts {c : List Int} {r : List (List Val)} (h : mayB c r = true) : colsB c = true ∧ r.all (rowB c.length) = true ∧ r.length ≤ 5000 := by
  unfold mayB at h
  simp only [Bool.and_eq_true, decide_eq_true_eq] at h
  exact ⟨h.1.1, h.1.2, h.2⟩
theorem mayB_filter {c : List Int} {r : List (List Val)} (f : List Val → Bool) (h : mayB c r = true) : mayB c (r.filter f) = true := by
  obtain ⟨h1, h2, h3⟩ := mayB_parts h
  unfold mayB
  rw [h1, Bool.true_and, Bool.and_eq_true]
  refine ⟨?_, decide_eq_true (Nat.le_trans (List.length_filter_le _ _) h3)⟩
  rw [List.all_eq_true] at h2 ⊢
  exact fun x hx => h2 x (List.mem_filter.1 hx).1
theorem mayB_nil {c : List Int} {r : List (List Val)} (h : mayB c r = true) : mayB c [] = true := by
  unfold mayB; rw [(mayB_parts h).1]; rfl
theorem pick_self (c : List Int) (r : List (List Val)) : pickB c r c = bif mayB c r then some (c, r) else none := by
  unfold pickB
  cases h : mayB c r with
  | false => rfl
  | true =>
    have h1 : c.all (inC c) = true := List.all_eq_true.2 fun x hx => by unfold inC; exact decide_eq_true hx
    have hn := ((colsB_iff c).1 (mayB_parts h).1).2
    have hm : r.map (pickR c c) = r := by
      have h2 := (mayB_row h).2.2
      conv => rhs; rw [← List.map_id r]
      exact List.map_congr_left fun x hx => look_self hn (h2 x hx).1
    rw [mayB_nil h, h1, hm]; rfl
theorem pickR_ok {c cols : List Int} {row : List Val} (h : ROk row) : ROk (pickR c cols row) := fun v hv => by
  unfold pickR at hv
  obtain ⟨x, _, rfl⟩ := List.mem_map.1 hv
  exact lookR_ok c h x
end Go.Cf

namespace Go.Cf
open Go Go.Ab
set_option linter.unusedVariables false
theorem len63 {n : Nat} (h : n ≤ maxLen) : n ≤ 9223372036854775807 := h
theorem ty_api_Val {p : PV} (h : Typed cfg t_api_Val p) : ∃ v : Val, p = v.pv ∧ VOk v := by
  obtain ⟨ps, rfl, hl⟩ := h.struct_inv (fs := [(t_int, 0), (t_int, 1)]) (by kernel_rfl)
  obtain ⟨x, qs, rfl, hx, hl⟩ := typedL_cons hl
  obtain ⟨y, rfl, hy⟩ := typedL1 hl
  obtain ⟨a, rfl, ha⟩ := ty_int hx
  obtain ⟨b, rfl, hb⟩ := ty_int hy
  exact ⟨⟨a, b⟩, rfl, ha, hb⟩
def Row0 (r : List Val) : Prop := r.length ≤ 9223372036854775807 ∧ ROk r
theorem ty_s_api_Val {p : PV} (h : Typed cfg t_s_api_Val p) : ∃ r : List Val, p = rowp r ∧ Row0 r := by
  obtain ⟨xs, rfl, hl, hx⟩ := h.slice_inv (e := t_api_Val) (by kernel_rfl)
  obtain ⟨r, rfl, hr⟩ := list_of (Q := VOk) (f := Val.pv) (xs := xs) (fun x h => ty_api_Val (hx x h))
  exact ⟨r, rfl, len63 (by simpa using hl), hr⟩
def Tab0 (t : List (List Val)) : Prop := t.length ≤ 9223372036854775807 ∧ ∀ r ∈ t, Row0 r
theorem ty_s_s_api_Val {p : PV} (h : Typed cfg t_s_s_api_Val p) : ∃ t : List (List Val), p = tabp t ∧ Tab0 t := by
  obtain ⟨xs, rfl, hl, hx⟩ := h.slice_inv (e := t_s_api_Val) (by kernel_rfl)
  obtain ⟨r, rfl, hr⟩ := list_of (Q := Row0) (f := rowp) (xs := xs) (fun x h => ty_s_api_Val (hx x h))
  exact ⟨r, rfl, len63 (by simpa using hl), hr⟩
theorem ty_s_int {p : PV} (h : Typed cfg t_s_int p) : ∃ l : List Int, p = intsp l ∧ (l.length ≤ 9223372036854775807 ∧ ∀ n ∈ l, I64 n) := by
  obtain ⟨xs, rfl, hl, hx⟩ := h.slice_inv (e := t_int) (by kernel_rfl)
  obtain ⟨r, rfl, hr⟩ := list_of (Q := I64) (f := intp) (xs := xs) (fun x h => ty_int (hx x h))
  exact ⟨r, rfl, len63 (by simpa using hl), hr⟩
def Bag0 (b : List Int × List (List Val)) : Prop := b.1.length ≤ 9223372036854775807 ∧ Tab0 b.2
theorem ty_api_Bag {p : PV} (h : Typed cfg t_api_Bag p) : ∃ b : List Int × List (List Val), p = bagp b.1 b.2 ∧ Bag0 b := by
  obtain ⟨ps, rfl, hl⟩ := h.struct_inv (fs := [(t_s_int, 0), (t_s_s_api_Val, 1)]) (by kernel_rfl)
  obtain ⟨x, qs, rfl, hx, hl⟩ := typedL_cons hl
  obtain ⟨y, rfl, hy⟩ := typedL1 hl
  obtain ⟨a, rfl, ha⟩ := ty_s_int hx
  obtain ⟨b, rfl, hb⟩ := ty_s_s_api_Val hy
  exact ⟨(a, b), rfl, ha.1, hb⟩
end Go.Cf

namespace Go.Cf
open Go Go.Ab
set_option linter.unusedVariables false
set_option linter.unusedSimpArgs false
abbrev CM := List (ByteArray × Int)
def mpC (m : CM) : List (PV × PV) := m.map fun x => (PV.str x.1, PV.int .i64 x.2)
def getC (k : ByteArray) : CM → Option Int
  | [] => none
  | x :: r => bif k.toList == x.1.toList then some x.2 else getC k r
def putC (k : ByteArray) (v : Int) : CM → CM
  | [] => [(k, v)]
  | x :: r => bif k.toList == x.1.toList then (k, v) :: r else x :: putC k v r
theorem eqS (a b : ByteArray) : eqP cfg 6 9 (.str a) (.str b) = some (a.toList == b.toList) := by rfl
theorem mfind_mp (k : ByteArray) : ∀ (m : CM), mfind (eqP cfg 6 9) (.str k) (mpC m) = some ((getC k m).map (PV.int .i64))
  | [] => rfl
  | x :: r => by
    show mfind (eqP cfg 6 9) (.str k) ((PV.str x.1, PV.int .i64 x.2) :: mpC r) = _
    simp only [mfind, eqS, Option.bind_some, getC]
    cases k.toList == x.1.toList with
    | true => rfl
    | false => exact mfind_mp k r
theorem mput_mp (k : ByteArray) (v : Int) : ∀ (m : CM), mput (eqP cfg 6 9) (.str k) (.int .i64 v) (mpC m) = some (mpC (putC k v m))
  | [] => rfl
  | x :: r => by
    show mput (eqP cfg 6 9) (.str k) (.int .i64 v) ((PV.str x.1, PV.int .i64 x.2) :: mpC r) = _
    simp only [mput, eqS, Option.bind_some, putC]
    cases h : k.toList == x.1.toList with
    | true =>
      have h' : sameP (.str x.1) (.str k) = true := by
        show (x.1.toList == k.toList) = true
        rw [beq_iff_eq] at h ⊢; exact h.symm
      rw [h']; rfl
    | false =>
      simp only [cond_false, mput_mp k v r, Option.bind_some]; rfl
theorem zeros_mp : ∀ (m : CM), zeros (mpC m) = some (m.all fun x => x.2 == 0)
  | [] => rfl
  | x :: r => by
    show (zeros (mpC r)).map (fun b => (x.2 == 0) && b) = _
    rw [zeros_mp r]; rfl
def getL (L : List UInt8) : CM → Int
  | [] => 0
  | x :: r => if L = x.1.toList then x.2 else getL L r
theorem getC_getL (k : ByteArray) : ∀ (m : CM), (getC k m).getD 0 = getL k.toList m
  | [] => rfl
  | x :: r => by
    simp only [getC, getL]
    by_cases h : k.toList = x.1.toList
    · rw [if_pos h, show (k.toList == x.1.toList) = true by rw [h]; exact beq_self_eq_true _]; rfl
    · rw [if_neg h, show (k.toList == x.1.toList) = false by simpa using h]
      exact getC_getL k r
theorem getL_put (L : List UInt8) (k : ByteArray) (v : Int) : ∀ (m : CM), getL L (putC k v m) = if L = k.toList then v else getL L m
  | [] => rfl
  | x :: r => by
    simp only [putC]
    by_cases h : k.toList = x.1.toList
    · rw [show (k.toList == x.1.toList) = true by rw [h]; exact beq_self_eq_true _]
      simp only [cond_true, getL, ← h]
      by_cases hL : L = k.toList
      · rw [if_pos hL, if_pos hL]
      · rw [if_neg hL, if_neg hL, if_neg hL]
    · rw [show (k.toList == x.1.toList) = false by simpa using h]
      simp only [cond_false, getL, getL_put L k v r]
      by_cases hx : L = x.1.toList
      · rw [if_pos hx]
        rw [if_neg (fun e => h (e.symm.trans hx)), if_pos hx]
      · rw [if_neg hx, if_neg hx]
def keysC (m : CM) : List (List UInt8) := m.map fun x => x.1.toList
theorem keys_put (k : ByteArray) (v : Int) : ∀ (m : CM), (keysC m).Nodup → (keysC (putC k v m)).Nodup ∧ ∀ L, L ∈ keysC (putC k v m) → L = k.toList ∨ L ∈ keysC m
  | [], _ => ⟨by simp [putC, keysC], fun L h => by simp [putC, keysC] at h; exact .inl h⟩
  | x :: r, h => by
    simp only [putC]
    have h2 := List.nodup_cons.1 (show (x.1.toList :: keysC r).Nodup from h)
    by_cases e : k.toList = x.1.toList
    · rw [show (k.toList == x.1.toList) = true by rw [e]; exact beq_self_eq_true _]
      simp only [cond_true]
      refine ⟨?_, fun L hL => ?_⟩
      · show (k.toList :: keysC r).Nodup
        rw [e]; exact h
      · rcases List.mem_cons.1 (show L ∈ k.toList :: keysC r from hL) with h3 | h3
        · exact .inl h3
        · exact .inr (List.mem_cons.2 (.inr h3))
    · rw [show (k.toList == x.1.toList) = false by simpa using e]
      obtain ⟨i1, i2⟩ := keys_put k v r h2.2
      simp only [cond_false]
      refine ⟨?_, fun L hL => ?_⟩
      · refine List.nodup_cons.2 ⟨fun hm => ?_, i1⟩
        rcases i2 _ hm with h3 | h3
        · exact e h3.symm
        · exact h2.1 h3
      · rcases List.mem_cons.1 (show L ∈ x.1.toList :: keysC (putC k v r) from hL) with h3 | h3
        · exact .inr (List.mem_cons.2 (.inl h3))
        · rcases i2 _ h3 with h4 | h4
          · exact .inl h4
          · exact .inr (List.mem_cons.2 (.inr h4))
theorem all_zero : ∀ (m : CM), (keysC m).Nodup → ((m.all fun x => x.2 == 0) = true ↔ ∀ L, getL L m = 0)
  | [], _ => by simp [getL]
  | x :: r, h => by
    have h2 := List.nodup_cons.1 (show (x.1.toList :: keysC r).Nodup from h)
    have ih := all_zero r h2.2
    simp only [List.all_cons, Bool.and_eq_true, beq_iff_eq, getL]
    constructor
    · rintro ⟨a, b⟩ L
      split
      · exact a
      · exact ih.1 b L
    · intro hall
      refine ⟨?_, ih.2 fun L => ?_⟩
      · have := hall x.1.toList
        rwa [if_pos rfl] at this
      · by_cases hm : L = x.1.toList
        · have none : ∀ (l : CM), L ∉ keysC l → getL L l = 0 := by
            intro l
            induction l with
            | nil => intro _; rfl
            | cons y l ihl =>
              intro hn
              simp only [getL]
              rw [if_neg (fun e => hn (by rw [e]; simp [keysC])), ihl (fun e => hn (List.mem_cons.2 (.inr e)))]
          exact none r (by rw [hm]; exact h2.1)
        · have := hall L
          rwa [if_neg hm] at this
def txt (r : List Val) : ByteArray := textS (r.map fun v => (v.K, v.N))
def tL (r : List Val) : List UInt8 := (txt r).toList
theorem pairs_row : ∀ (r : List Val), ROk r → pairsP (r.map Val.pv) = some (r.map fun v => (v.K, v.N))
  | [], _ => rfl
  | v :: r, h => by
    have hv := h v (by simp)
    have h1 : (inI v.K && inI v.N) = true := by
      unfold inI
      rw [decide_eq_true hv.1.1, decide_eq_true hv.1.2, decide_eq_true hv.2.1, decide_eq_true hv.2.2]; rfl
    show (bif inI v.K && inI v.N then (pairsP (r.map Val.pv)).bind fun l => some ((v.K, v.N) :: l) else none) = _
    rw [h1, pairs_row r (fun x hx => h x (by simp [hx]))]; rfl
theorem w_text (r : List Val) (h : ROk r) (hl : r.length ≤ 1000000) : wc W n_bag_text [rowp r] = some (.str (txt r)) := x_bag_text (r.map Val.pv) _ (pairs_row r h) (by rw [List.length_map]; exact hl)
def add1 (k : ByteArray) (d : Int) (m : CM) : CM := putC k ((getC k m).getD 0 + d) m
def foldS : List (List Val) → List (List Val) → CM → CM
  | x :: r, y :: s, m => foldS r s (add1 (txt y) (-1) (add1 (txt x) 1 m))
  | _, _, m => m
def bnd (m : CM) (B : Nat) : Prop := ∀ x ∈ m, -(B : Int) ≤ x.2 ∧ x.2 ≤ B
theorem getC_bnd (k : ByteArray) (B : Nat) : ∀ (m : CM), bnd m B → -(B : Int) ≤ (getC k m).getD 0 ∧ (getC k m).getD 0 ≤ B
  | [], _ => by simp [getC]
  | x :: r, h => by
    simp only [getC]
    cases k.toList == x.1.toList with
    | true => exact h x (by simp)
    | false => exact getC_bnd k B r (fun y hy => h y (by simp [hy]))
theorem putC_bnd (k : ByteArray) (v : Int) (B : Nat) (hv : -(B : Int) ≤ v ∧ v ≤ B) : ∀ (m : CM), bnd m B → bnd (putC k v m) B
  | [], _ => fun x hx => by simp [putC] at hx; subst hx; exact hv
  | x :: r, h => fun y hy => by
    simp only [putC] at hy
    cases he : k.toList == x.1.toList with
    | true =>
      rw [he] at hy
      rcases List.mem_cons.1 hy with rfl | hy
      · exact hv
      · exact h y (by simp [hy])
    | false =>
      rw [he] at hy
      rcases List.mem_cons.1 hy with rfl | hy
      · exact h _ (by simp)
      · exact putC_bnd k v B hv r (fun z hz => h z (by simp [hz])) y hy
theorem add1_bnd (k : ByteArray) (d : Int) (hd : -1 ≤ d ∧ d ≤ 1) (m : CM) (B : Nat) (h : bnd m B) : bnd (add1 k d m) (B + 1) := by
  have h1 := getC_bnd k B m h
  exact putC_bnd k _ (B + 1) (by omega) m (fun x hx => by have := h x hx; omega)
theorem same_loop (c d : List PV) (r s : List (List Val)) (e : r.length = s.length) (hr : r.length ≤ 1000000000) (h1 : ∀ x ∈ r, ROk x ∧ x.length ≤ 1000000) (h2 : ∀ x ∈ s, ROk x ∧ x.length ≤ 1000000) :
    ∀ (k i : Nat) (m : CM), i + k = r.length → bnd m (2 * i) → L_bag_Same_2 c (r.map rowp) d (s.map rowp) (r.length : Int) (i : Int) (mpC m) = some (.bool ((foldS (r.drop i) (s.drop i) m).all fun x => x.2 == 0))
  | 0, i, m, h, hb => by
    rw [L_bag_Same_2_eq, show i = r.length by omega]
    simp only [ge_len, cond_false, zeros_mp, Option.bind_some, List.drop_length, foldS]
  | k + 1, i, m, h, hb => by
    have hi : i < r.length := by omega
    have hi' : i < s.length := by omega
    obtain ⟨a1, a2⟩ := h1 r[i] (List.getElem_mem hi)
    obtain ⟨b1, b2⟩ := h2 s[i] (List.getElem_mem hi')
    have hb1 := add1_bnd (txt r[i]) 1 (by omega) m _ hb
    have hb2 := add1_bnd (txt s[i]) (-1) (by omega) _ _ hb1
    have g1 := getC_bnd (txt r[i]) _ m hb
    have g2 := getC_bnd (txt s[i]) _ _ hb1
    rw [L_bag_Same_2_eq, List.drop_eq_getElem_cons hi, List.drop_eq_getElem_cons hi', foldS]
    have o1 : ∀ (o : Option Int) (x : Int), -9223372036854775808 ≤ o.getD 0 + x → o.getD 0 + x ≤ 9223372036854775807 → intP .add ((o.map (PV.int .i64)).getD (.int .i64 0)) (.int .i64 x) = some (.int .i64 (o.getD 0 + x)) := fun o x q1 q2 => by
      cases o with
      | none => show some (PV.int .i64 (IntKind.wrap .i64 (0 + x))) = _; rw [wrap64 (by simpa using q1) (by simpa using q2)]; rfl
      | some v => show some (PV.int .i64 (IntKind.wrap .i64 (v + x))) = _; rw [wrap64 (by simpa using q1) (by simpa using q2)]; rfl
    have o2 : ∀ (o : Option Int) (x : Int), -9223372036854775808 ≤ o.getD 0 - x → o.getD 0 - x ≤ 9223372036854775807 → intP .sub ((o.map (PV.int .i64)).getD (.int .i64 0)) (.int .i64 x) = some (.int .i64 (o.getD 0 - x)) := fun o x q1 q2 => by
      cases o with
      | none => show some (PV.int .i64 (IntKind.wrap .i64 (0 - x))) = _; rw [wrap64 (by simpa using q1) (by simpa using q2)]; rfl
      | some v => show some (PV.int .i64 (IntKind.wrap .i64 (v - x))) = _; rw [wrap64 (by simpa using q1) (by simpa using q2)]; rfl
    simp only [lt_len hi, nat_le, cond_true, Int.toNat_natCast, List.getElem?_map, List.getElem?_eq_getElem hi, List.getElem?_eq_getElem hi', Option.map_some, Option.bind_some, c_rowp, rowp_fold, w_text _ a1 a2, w_text _ b1 b2, c_t_mk, mfind_mp, c_i64_mk]
    rw [o1 _ 1 (by omega) (by omega)]
    simp only [Option.bind_some, c_i64_mk, mput_mp, mfind_mp]
    have e1 : putC (txt r[i]) ((getC (txt r[i]) m).getD 0 + 1) m = add1 (txt r[i]) 1 m := rfl
    rw [e1, o2 _ 1 (by omega) (by omega)]
    simp only [Option.bind_some, c_i64_mk, mput_mp]
    have e2 : putC (txt s[i]) ((getC (txt s[i]) (add1 (txt r[i]) 1 m)).getD 0 - 1) (add1 (txt r[i]) 1 m) = add1 (txt s[i]) (-1) (add1 (txt r[i]) 1 m) := rfl
    rw [e2, wrap_succ (by omega)]
    have hb3 : bnd (add1 (txt s[i]) (-1) (add1 (txt r[i]) 1 m)) (2 * (i + 1)) := hb2
    exact same_loop c d r s e hr h1 h2 k (i + 1) _ (by omega) hb3
theorem w_EqualInt (a b : List Int) (ha : a.length ≤ 9223372036854775807) : wc W n_slices_Equal_int_int [intsp a, intsp b] = some (.bool (decide (a = b))) := by
  have h := e_slices_Equal_int_int (a.map intp) (b.map intp)
  rw [intsp_fold, intsp_fold] at h
  rw [h, List.length_map, List.length_map]
  by_cases e : a.length = b.length
  · rw [bne_f (by omega)]
    simp only [cond_false]
    refine loop_all2 (fun i => L_slices_Equal_int_int_1 (a.map intp) (b.map intp) a.length i) a b e (some (.bool false)) (some (.bool true)) (fun i hi hi' => ?_) ?_ |>.trans ?_
    · rw [L_slices_Equal_int_int_1_eq]
      simp only [lt_len hi, nat_le, cond_true, Int.toNat_natCast, List.getElem?_map, List.getElem?_eq_getElem hi, List.getElem?_eq_getElem hi', Option.map_some, Option.bind_some, c_intp]
      by_cases he : a[i] = b[i]
      · rw [bne_f he, decide_eq_true he, wrap64 (by omega) (by omega)]; rfl
      · rw [bne_t he, decide_eq_false he]; rfl
    · rw [L_slices_Equal_int_int_1_eq]; simp
    · cases decide (a = b) <;> rfl
  · rw [bne_t (by omega), decide_eq_false (fun h => e (by rw [h]))]; rfl
def sameB (c : List Int) (r : List (List Val)) (d : List Int) (s : List (List Val)) : Bool := decide (c = d) && decide (r.length = s.length) && (foldS r s []).all fun x => x.2 == 0
theorem w_Same (c : List Int) (r : List (List Val)) (d : List Int) (s : List (List Val)) (hc : c.length ≤ 9223372036854775807) (hr : r.length ≤ 1000000000) (hs : s.length ≤ 1000000000) (h1 : ∀ x ∈ r, ROk x ∧ x.length ≤ 1000000) (h2 : ∀ x ∈ s, ROk x ∧ x.length ≤ 1000000) :
    wc W n_bag_Same [bagp c r, bagp d s] = some (.bool (sameB c r d s)) := by
  have h := e_bag_Same (c.map intp) (r.map rowp) (d.map intp) (s.map rowp)
  rw [intsp_fold, intsp_fold, tabp_fold, tabp_fold, bagp_fold, bagp_fold, w_EqualInt c d hc] at h
  rw [h]
  unfold sameB
  simp only [Option.bind_some, c_b_mk, List.length_map]
  cases decide (c = d) with
  | false => rfl
  | true =>
    by_cases e : r.length = s.length
    · rw [bne_f (by omega), decide_eq_true e, J_bag_Same_1_eq]
      have := same_loop (c.map intp) (d.map intp) r s e hr h1 h2 r.length 0 [] (by omega) (fun x hx => by simp at hx)
      simp only [List.drop_zero] at this
      simp only [Bool.not_true, cond_false, List.length_map, Bool.true_and]
      exact this
    · rw [bne_t (by omega), decide_eq_false e]; rfl
def cnt (L : List UInt8) (r : List (List Val)) : Int := ((r.map tL).count L : Nat)
theorem getL_add (L : List UInt8) (k : ByteArray) (d : Int) (m : CM) : getL L (add1 k d m) = getL L m + if L = k.toList then d else 0 := by
  unfold add1
  rw [getL_put, getC_getL]
  split
  · rename_i h; rw [h]
  · omega
theorem fold_spec (L : List UInt8) : ∀ (r s : List (List Val)) (m : CM), r.length = s.length → (keysC m).Nodup → (keysC (foldS r s m)).Nodup ∧ getL L (foldS r s m) = getL L m + cnt L r - cnt L s
  | [], [], m, _, h => ⟨h, by simp [foldS, cnt]⟩
  | [], _ :: _, m, e, h => by simp at e
  | _ :: _, [], m, e, h => by simp at e
  | x :: r, y :: s, m, e, h => by
    have k1 := (keys_put (txt x) ((getC (txt x) m).getD 0 + 1) m h).1
    have k2 := (keys_put (txt y) ((getC (txt y) (add1 (txt x) 1 m)).getD 0 + -1) (add1 (txt x) 1 m) k1).1
    obtain ⟨i1, i2⟩ := fold_spec L r s (add1 (txt y) (-1) (add1 (txt x) 1 m)) (by simpa using e) k2
    refine ⟨i1, ?_⟩
    show getL L (foldS r s (add1 (txt y) (-1) (add1 (txt x) 1 m))) = _
    rw [i2, getL_add, getL_add]
    have c1 : cnt L (x :: r) = cnt L r + if L = (txt x).toList then 1 else 0 := by
      unfold cnt
      rw [List.map_cons, List.count_cons]
      by_cases hx : L = (txt x).toList
      · rw [if_pos hx, show (tL x == L) = true by rw [hx]; exact beq_self_eq_true _]; simp
      · rw [if_neg hx, show (tL x == L) = false by simpa using fun e => hx e.symm]; simp
    have c2 : cnt L (y :: s) = cnt L s + if L = (txt y).toList then 1 else 0 := by
      unfold cnt
      rw [List.map_cons, List.count_cons]
      by_cases hx : L = (txt y).toList
      · rw [if_pos hx, show (tL y == L) = true by rw [hx]; exact beq_self_eq_true _]; simp
      · rw [if_neg hx, show (tL y == L) = false by simpa using fun e => hx e.symm]; simp
    rw [c1, c2]
    split <;> split <;> omega
theorem same_iff (r s : List (List Val)) (e : r.length = s.length) : ((foldS r s []).all fun x => x.2 == 0) = true ↔ ∀ L, cnt L r = cnt L s := by
  rw [all_zero _ (fold_spec [] r s [] e (by simp [keysC])).1]
  constructor
  · intro h L
    have := (fold_spec L r s [] e (by simp [keysC])).2
    rw [h L] at this
    simp only [getL] at this
    omega
  · intro h L
    rw [(fold_spec L r s [] e (by simp [keysC])).2, h L]
    simp only [getL]; omega
theorem cnt_perm {r s : List (List Val)} (h : r.Perm s) (L : List UInt8) : cnt L r = cnt L s := by
  unfold cnt
  rw [(h.map tL).count_eq]
theorem same_perm {c : List Int} {r s : List (List Val)} (h : r.Perm s) : sameB c r c s = true := by
  unfold sameB
  rw [decide_eq_true rfl, decide_eq_true h.length_eq, (same_iff r s h.length_eq).2 (cnt_perm h)]; rfl
end Go.Cf
