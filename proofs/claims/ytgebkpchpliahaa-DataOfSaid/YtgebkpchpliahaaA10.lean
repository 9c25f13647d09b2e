/- Part 11 of the proof: an abstract machine that runs the program's code over plain values, its soundness, and what the functions tell of plain values. Conditions: those in each theorem. -/
import Derived.Test.YtgebkpchpliahaaA9
import Derived.Carry
namespace Go.Ab
open Go.RowKit (Below)
set_option linter.unusedVariables false
set_option linter.unusedSimpArgs false
section
variable {c : Cfg} {t e : TypeId} {p : PV}
theorem Typed.int_inv {k : IntKind} (h : Typed c t p) (hk : (c.at_ t).k = .int k) : ∃ n, p = .int k n ∧ (Lit.int k n).wf = true := by
  cases h with
  | int t k' n h hw => rw [hk] at h; cases h; exact ⟨n, rfl, hw⟩
  | bool t b h => rw [hk] at h; cases h
  | str t s h => rw [hk] at h; cases h
  | slice t e xs h => rw [hk] at h; cases h
  | struct t fs ps h => rw [hk] at h; cases h
  | arr t e n ps h => rw [hk] at h; cases h
theorem Typed.bool_inv (h : Typed c t p) (hk : (c.at_ t).k = .bool) : ∃ b, p = .bool b := by
  cases h with
  | int t k' n h hw => rw [hk] at h; cases h
  | bool t b h => exact ⟨b, rfl⟩
  | str t s h => rw [hk] at h; cases h
  | slice t e xs h => rw [hk] at h; cases h
  | struct t fs ps h => rw [hk] at h; cases h
  | arr t e n ps h => rw [hk] at h; cases h
theorem Typed.str_inv (h : Typed c t p) (hk : (c.at_ t).k = .str) : ∃ s, p = .str s ∧ s.size ≤ maxLen := by
  cases h with
  | int t k' n h hw => rw [hk] at h; cases h
  | bool t b h => rw [hk] at h; cases h
  | str t s h hs => exact ⟨s, rfl, hs⟩
  | slice t e xs h => rw [hk] at h; cases h
  | struct t fs ps h => rw [hk] at h; cases h
  | arr t e n ps h => rw [hk] at h; cases h
theorem Typed.slice_inv (h : Typed c t p) (hk : (c.at_ t).k = .slice e) : ∃ xs, p = .slice (c.sh e) xs ∧ xs.length ≤ maxLen ∧ ∀ x ∈ xs, Typed c e x := by
  cases h with
  | int t k' n h hw => rw [hk] at h; cases h
  | bool t b h => rw [hk] at h; cases h
  | str t s h => rw [hk] at h; cases h
  | slice t e xs h hl hx => rw [hk] at h; cases h; exact ⟨xs, rfl, hl, hx⟩
  | struct t fs ps h => rw [hk] at h; cases h
  | arr t e n ps h => rw [hk] at h; cases h
theorem Typed.arr_inv {n : Nat} (h : Typed c t p) (hk : (c.at_ t).k = .arr n e) : ∃ ps : List PV, p = .agg (ps.flatMap PV.cells) ∧ ps.length = n ∧ ∀ x ∈ ps, Typed c e x := by
  cases h with
  | int t k' n h hw => rw [hk] at h; cases h
  | bool t b h => rw [hk] at h; cases h
  | str t s h => rw [hk] at h; cases h
  | slice t e xs h => rw [hk] at h; cases h
  | struct t fs ps h => rw [hk] at h; cases h
  | arr t e n ps h hl hx => rw [hk] at h; cases h; exact ⟨ps, rfl, hl, hx⟩
def TypedL (c : Cfg) : List TypeId → List PV → Prop
  | [], [] => True
  | t :: ts, p :: ps => Typed c t p ∧ TypedL c ts ps
  | _, _ => False
theorem typedL_of {c : Cfg} : ∀ {fs : List (TypeId × Nat)} {ps : List PV}, ps.length = fs.length → (∀ (i : Nat) (f : TypeId × Nat) (p : PV), fs[i]? = some f → ps[i]? = some p → Typed c f.1 p) → TypedL c (fs.map (·.1)) ps
  | [], [], _, _ => trivial
  | [], _ :: _, h, _ => by simp at h
  | _ :: _, [], h, _ => by simp at h
  | f :: fs, p :: ps, h, k => ⟨k 0 f p rfl rfl, typedL_of (by simpa using h) fun i f p hf hp => k (i + 1) f p (by simpa using hf) (by simpa using hp)⟩
theorem Typed.struct_inv {fs : List (TypeId × Nat)} (h : Typed c t p) (hk : (c.at_ t).k = .struct fs) : ∃ ps : List PV, p = .agg (ps.flatMap PV.cells) ∧ TypedL c (fs.map (·.1)) ps := by
  cases h with
  | int t k' n h hw => rw [hk] at h; cases h
  | bool t b h => rw [hk] at h; cases h
  | str t s h => rw [hk] at h; cases h
  | slice t e xs h => rw [hk] at h; cases h
  | struct t fs ps h hl hp => rw [hk] at h; cases h; exact ⟨ps, rfl, typedL_of hl hp⟩
  | arr t e n ps h => rw [hk] at h; cases h
theorem typedL1 {a : TypeId} {ps : List PV} (h : TypedL c [a] ps) : ∃ x, ps = [x] ∧ Typed c a x := by
  match ps, h with
  | [x], h => exact ⟨x, rfl, h.1⟩
theorem typedL_cons {a : TypeId} {ts : List TypeId} {ps : List PV} (h : TypedL c (a :: ts) ps) : ∃ x qs, ps = x :: qs ∧ Typed c a x ∧ TypedL c ts qs := by
  match ps, h with
  | x :: qs, h => exact ⟨x, qs, rfl, h.1, h.2⟩
theorem typedL_nil {ps : List PV} (h : TypedL c [] ps) : ps = [] := by
  match ps, h with
  | [], h => rfl
theorem list_of {α : Type} {Q : α → Prop} {f : α → PV} : ∀ {xs : List PV}, (∀ x ∈ xs, ∃ a, x = f a ∧ Q a) → ∃ l : List α, xs = l.map f ∧ ∀ a ∈ l, Q a
  | [], _ => ⟨[], rfl, by simp⟩
  | x :: xs, h => by
    obtain ⟨a, rfl, ha⟩ := h x (by simp)
    obtain ⟨l, rfl, hl⟩ := list_of (xs := xs) (fun y hy => h y (List.mem_cons_of_mem _ hy))
    exact ⟨a :: l, rfl, by simpa using ⟨ha, hl⟩⟩
end
end Go.Ab

namespace Go.Cf
open Go Go.Ab
set_option linter.unusedVariables false
theorem ty_int {p : PV} (h : Typed cfg t_int p) : ∃ n : Int, p = .int .i64 n ∧ I64 n := by
  obtain ⟨n, rfl, hw⟩ := h.int_inv (k := .i64) (by kernel_rfl)
  exact ⟨n, rfl, wf_i64 hw⟩
theorem ty_string {p : PV} (h : Typed cfg t_string p) : ∃ s : ByteArray, p = .str s ∧ s.size ≤ maxLen := h.str_inv (by kernel_rfl)
end Go.Cf

namespace Go.Cf
open Go Go.Ab
set_option linter.unusedVariables false
set_option maxRecDepth 100000
noncomputable def jF3 : Jn PV := (Classical.choose (exT fi3 (fin cfg fi3))).1
noncomputable def lF3 : Ln PV := (Classical.choose (exT fi3 (fin cfg fi3))).2
theorem T3 : Tied cfg W fi3 (fin cfg fi3) jF3 lF3 := Classical.choose_spec (exT fi3 (fin cfg fi3))
noncomputable def J_roadbooklaw04_DataLess_1 (i9 : Int) (i10 : Int) (l11 : List PV) (l12 : List PV) : Option PV := jF3 [1, 1, 1, 1] (St.mk [(2, (AV.pv (PV.int .i64 i9))), (3, (AV.pv (PV.int .i64 i10))), (4, (AV.pv (PV.imm 2 (PV.agg [(PV.slice 3 l11)]) 0))), (5, (AV.pv (PV.imm 2 (PV.agg [(PV.slice 0 l12)]) 0)))] [])
noncomputable def L_roadbooklaw04_DataLess_2 (i13 : Int) (i14 : Int) (l15 : List PV) (l16 : List PV) (i17 : Int) (l18 : List PV) (l19 : List PV) : Option PV := lF3 [0, 1, 0, 1, 1, 1, 1, 1, 1] 4 (St.mk [(2, (AV.pv (PV.int .i64 i13))), (3, (AV.pv (PV.int .i64 i14))), (4, (AV.pv (PV.imm 2 (PV.agg [(PV.slice 3 l15)]) 0))), (5, (AV.pv (PV.imm 2 (PV.agg [(PV.slice 0 l16)]) 0))), (11, (AV.own 1 0)), (12, (AV.own 3 0)), (13, (AV.pv (PV.int .i64 i17)))] [(Ob.row false 0 0 l18), (Ob.var false 2 (AV.agg [(AV.view 0 0 none)])), (Ob.row false 0 0 l19), (Ob.var false 2 (AV.agg [(AV.view 2 0 none)]))])
noncomputable def L_roadbooklaw04_DataLess_3 (i20 : Int) (i21 : Int) (l22 : List PV) (l23 : List PV) (i24 : Int) (i25 : Int) (l26 : List PV) (l27 : List PV) (l28 : List PV) (l29 : List PV) : Option PV := lF3 [0, 1, 0, 1, 1, 0, 0, 1, 4, 0, 1, 0, 1, 1, 1, 1, 1, 1] 6 (St.mk [(2, (AV.pv (PV.int .i64 i20))), (3, (AV.pv (PV.int .i64 i21))), (4, (AV.pv (PV.imm 2 (PV.agg [(PV.slice 3 l22)]) 0))), (5, (AV.pv (PV.imm 2 (PV.agg [(PV.slice 0 l23)]) 0))), (11, (AV.own 1 0)), (12, (AV.own 3 0)), (13, (AV.pv (PV.int .i64 i24))), (14, (AV.view 4 0 none)), (15, (AV.view 5 0 none)), (16, (AV.pv (PV.int .i64 i25)))] [(Ob.row false 0 0 l26), (Ob.var false 2 (AV.agg [(AV.view 0 0 none)])), (Ob.row false 0 0 l27), (Ob.var false 2 (AV.agg [(AV.view 2 0 none)])), (Ob.row false 0 0 l28), (Ob.row false 0 0 l29)])
noncomputable def J_roadbooklaw04_DataLess_4 (i38 : Int) (i39 : Int) (l40 : List PV) (l41 : List PV) (i42 : Int) (i43 : Int) (b44 : Bool) (l45 : List PV) (l46 : List PV) (l47 : List PV) (l48 : List PV) : Option PV := jF3 [1, 0, 0, 1, 6, 0, 1, 0, 1, 1, 0, 0, 1, 4, 0, 1, 0, 1, 1, 1, 1, 1, 1] (St.mk [(2, (AV.pv (PV.int .i64 i38))), (3, (AV.pv (PV.int .i64 i39))), (4, (AV.pv (PV.imm 2 (PV.agg [(PV.slice 3 l40)]) 0))), (5, (AV.pv (PV.imm 2 (PV.agg [(PV.slice 0 l41)]) 0))), (11, (AV.own 1 0)), (12, (AV.own 3 0)), (13, (AV.pv (PV.int .i64 i42))), (14, (AV.view 4 0 none)), (15, (AV.view 5 0 none)), (16, (AV.pv (PV.int .i64 i43))), (88, (AV.pv (PV.bool b44)))] [(Ob.row false 0 0 l45), (Ob.var false 2 (AV.agg [(AV.view 0 0 none)])), (Ob.row false 0 0 l46), (Ob.var false 2 (AV.agg [(AV.view 2 0 none)])), (Ob.row false 0 0 l47), (Ob.row false 0 0 l48)])
theorem J_roadbooklaw04_DataLess_1_eq (i9 : Int) (i10 : Int) (l11 : List PV) (l12 : List PV) : J_roadbooklaw04_DataLess_1 i9 i10 l11 l12 =
  (L_roadbooklaw04_DataLess_2 i9 i10 l11 l12 (0 : Int) [] []) := (T3.join [1, 1, 1, 1] _).trans (by kernel_rfl)
theorem L_roadbooklaw04_DataLess_2_eq (i13 : Int) (i14 : Int) (l15 : List PV) (l16 : List PV) (i17 : Int) (l18 : List PV) (l19 : List PV) : L_roadbooklaw04_DataLess_2 i13 i14 l15 l16 i17 l18 l19 =
  (bif (decide (i17 < (((List.length l16) : Nat) : Int))) then (L_roadbooklaw04_DataLess_3 i13 i14 l15 l16 i17 (0 : Int) l18 l19 [] []) else (((wc W n_data_Fits [(PV.agg [(PV.slice 3 l15)]), (PV.agg [(PV.slice 0 l18)])])).bind (fun v30 => (c_b v30 (fun v31 => (bif v31 then (((wc W n_data_Fits [(PV.agg [(PV.slice 3 l15)]), (PV.agg [(PV.slice 0 l19)])])).bind (fun v32 => (c_b v32 (fun v33 => (bif (!v33) then (((wc W n_data_May [(PV.agg [(PV.slice 3 l15)])])).bind (fun v34 => (c_b v34 (fun v35 => (some (PV.bool v35)))))) else (some (PV.bool false))))))) else (some (PV.bool false)))))))) := (T3.loop [1, 1, 1, 1, 1, 1, 0, 1, 0] 4 _ rfl).trans (by kernel_rfl)
theorem L_roadbooklaw04_DataLess_3_eq (i20 : Int) (i21 : Int) (l22 : List PV) (l23 : List PV) (i24 : Int) (i25 : Int) (l26 : List PV) (l27 : List PV) (l28 : List PV) (l29 : List PV) : L_roadbooklaw04_DataLess_3 i20 i21 l22 l23 i24 i25 l26 l27 l28 l29 =
  (bif (decide ((0 : Int) ≤ i24)) then (((l23)[(Int.toNat i24)]?).bind (fun v36 => (c_s0 v36 (fun v37 => (bif (decide (i25 < (((List.length v37) : Nat) : Int))) then (bif (i24 == i20) then (J_roadbooklaw04_DataLess_4 i20 i21 l22 l23 i24 i25 (i25 == i21) l26 l27 l28 l29) else (J_roadbooklaw04_DataLess_4 i20 i21 l22 l23 i24 i25 false l26 l27 l28 l29)) else (bif (true && (decide (((List.length l26) + 1 : Nat) ≤ 4294967296))) then (bif (true && (decide (((List.length l27) + 1 : Nat) ≤ 4294967296))) then (L_roadbooklaw04_DataLess_2 i20 i21 l22 l23 (IntKind.wrap .i64 (i24 + (1 : Int) : Int)) (l26 ++ [(PV.slice 0 l28)]) (l27 ++ [(PV.slice 0 l29)])) else none) else none)))))) else none) := (T3.loop [1, 1, 1, 1, 1, 1, 0, 1, 0, 4, 1, 0, 0, 1, 1, 0, 1, 0] 6 _ rfl).trans (by kernel_rfl)
theorem J_roadbooklaw04_DataLess_4_eq (i38 : Int) (i39 : Int) (l40 : List PV) (l41 : List PV) (i42 : Int) (i43 : Int) (b44 : Bool) (l45 : List PV) (l46 : List PV) (l47 : List PV) (l48 : List PV) : J_roadbooklaw04_DataLess_4 i38 i39 l40 l41 i42 i43 b44 l45 l46 l47 l48 =
  (bif b44 then (bif (decide ((0 : Int) ≤ i42)) then (((l41)[(Int.toNat i42)]?).bind (fun v49 => (c_s0 v49 (fun v50 => (bif (decide ((0 : Int) ≤ i43)) then (((v50)[(Int.toNat i43)]?).bind (fun v51 => (c_s3 v51 (fun v52 => (bif ((true && (decide ((1 : Int) ≤ (((List.length v52) : Nat) : Int)))) && (decide ((((List.length v52) : Nat) : Int) ≤ (((List.length v52) : Nat) : Int)))) then (bif (true && (decide ((1 + (List.length (List.take ((Int.toNat (((List.length v52) : Nat) : Int)) - 1 : Nat) (List.drop 1 v52))) : Nat) ≤ 4294967296))) then (bif (true && (decide (((List.length l48) + 1 : Nat) ≤ 4294967296))) then (L_roadbooklaw04_DataLess_3 i38 i39 l40 l41 i42 (IntKind.wrap .i64 (i43 + (1 : Int) : Int)) l45 l46 l47 (l48 ++ [(PV.slice 3 ((PV.agg [(PV.int .i64 (3 : Int)), (PV.int .i64 (0 : Int))]) :: (List.append [] (List.take ((Int.toNat (((List.length v52) : Nat) : Int)) - 1 : Nat) (List.drop 1 v52)))))])) else none) else none) else none))))) else none))))) else none) else (bif (decide ((0 : Int) ≤ i42)) then (((l41)[(Int.toNat i42)]?).bind (fun v53 => (c_s0 v53 (fun v54 => (bif (decide ((0 : Int) ≤ i43)) then (((v54)[(Int.toNat i43)]?).bind (fun v55 => (c_s3 v55 (fun v56 => (bif (true && (decide (((List.length l47) + 1 : Nat) ≤ 4294967296))) then (bif (decide ((0 : Int) ≤ i42)) then (((l41)[(Int.toNat i42)]?).bind (fun v57 => (c_s0 v57 (fun v58 => (bif (decide ((0 : Int) ≤ i43)) then (((v58)[(Int.toNat i43)]?).bind (fun v59 => (c_s3 v59 (fun v60 => (bif (true && (decide (((List.length l48) + 1 : Nat) ≤ 4294967296))) then (L_roadbooklaw04_DataLess_3 i38 i39 l40 l41 i42 (IntKind.wrap .i64 (i43 + (1 : Int) : Int)) l45 l46 (l47 ++ [(PV.slice 3 v56)]) (l48 ++ [(PV.slice 3 v60)])) else none))))) else none))))) else none) else none))))) else none))))) else none)) := (T3.join [1, 1, 1, 1, 1, 1, 0, 1, 0, 4, 1, 0, 0, 1, 1, 0, 1, 0, 6, 1, 0, 0, 1] _).trans (by kernel_rfl)
theorem e_roadbooklaw04_DataLess (a0_0 : List PV) (a1_0 : List PV) (a2 : Int) (a3 : Int) : wc W n_roadbooklaw04_DataLess [(PV.agg [(PV.slice 3 a0_0)]), (PV.agg [(PV.slice 0 a1_0)]), (PV.int .i64 a2), (PV.int .i64 a3)] =
  (((wc W n_roadbooklaw04_awake [])).bind (fun v1 => (c_b v1 (fun v2 => (((wc W n_roadbooklaw04_few [(PV.agg [(PV.slice 0 a1_0)])])).bind (fun v3 => (c_b v3 (fun v4 => (bif (!v2) then (some (PV.bool v2)) else (bif (!v4) then (some (PV.bool v2)) else (bif (decide (GT.gt (((List.length a0_0) : Nat) : Int) (10 : Int))) then (some (PV.bool v2)) else (((wc W n_data_Fits [(PV.agg [(PV.slice 3 a0_0)]), (PV.agg [(PV.slice 0 a1_0)])])).bind (fun v5 => (c_b v5 (fun v6 => (bif (!v6) then (some (PV.bool v2)) else (bif (decide (a2 < (0 : Int))) then (some (PV.bool v2)) else (bif (decide (GE.ge a2 (((List.length a1_0) : Nat) : Int))) then (some (PV.bool v2)) else (bif (decide (a3 < (0 : Int))) then (some (PV.bool v2)) else (bif (decide ((0 : Int) ≤ a2)) then (((a1_0)[(Int.toNat a2)]?).bind (fun v7 => (c_s0 v7 (fun v8 => (bif (decide (GE.ge a3 (((List.length v8) : Nat) : Int))) then (some (PV.bool v2)) else (J_roadbooklaw04_DataLess_1 a2 a3 a0_0 a1_0)))))) else none)))))))))))))))))))) := go (by kernel_rfl) (by kernel_rfl) T3 (by kernel_rfl)
noncomputable def jF4 : Jn PV := (Classical.choose (exT fi4 (fin cfg fi4))).1
noncomputable def lF4 : Ln PV := (Classical.choose (exT fi4 (fin cfg fi4))).2
theorem T4 : Tied cfg W fi4 (fin cfg fi4) jF4 lF4 := Classical.choose_spec (exT fi4 (fin cfg fi4))
noncomputable def J_roadbooklaw04_DataCols_1 (i15 : Int) (b16 : Bool) : Option PV := jF4 [1, 1, 1, 1, 1] (St.mk [(2, (AV.pv (PV.int .i64 i15))), (7, (AV.pv (PV.bool b16)))] [])
noncomputable def J_roadbooklaw04_DataCols_2 (i27 : Int) (b28 : Bool) (i29 : Int) (i30 : Int) (b31 : Bool) : Option PV := jF4 [1, 1, 1, 1, 1, 1, 1] (St.mk [(2, (AV.pv (PV.int .i64 i27))), (7, (AV.pv (PV.bool b28))), (12, (AV.pv (PV.int .i64 i29))), (13, (AV.pv (PV.int .i64 i30))), (14, (AV.pv (PV.bool b31)))] [])
theorem J_roadbooklaw04_DataCols_1_eq (i15 : Int) (b16 : Bool) : J_roadbooklaw04_DataCols_1 i15 b16 =
  (((wc W n_data_Split [(PV.int .i64 i15)])).bind (fun v17 => (((PV.asTup v17)).bind (fun v18 => (((v18)[0]?).bind (fun v19 => (c_i64 v19 (fun v20 => (((PV.asTup v17)).bind (fun v21 => (((v21)[1]?).bind (fun v22 => (c_i64 v22 (fun v23 => (((PV.asTup v17)).bind (fun v24 => (((v24)[2]?).bind (fun v25 => (c_b v25 (fun v26 => (bif (decide (GE.ge i15 (0 : Int))) then (bif (!(v26 == (decide (i15 ≤ (15 : Int))))) then (some (PV.bool false)) else (J_roadbooklaw04_DataCols_2 i15 b16 v20 v23 v26)) else (bif (!(v26 == false)) then (some (PV.bool false)) else (J_roadbooklaw04_DataCols_2 i15 b16 v20 v23 v26))))))))))))))))))))))) := (T4.join [1, 1, 1, 1, 1] _).trans (by kernel_rfl)
theorem J_roadbooklaw04_DataCols_2_eq (i27 : Int) (b28 : Bool) (i29 : Int) (i30 : Int) (b31 : Bool) : J_roadbooklaw04_DataCols_2 i27 b28 i29 i30 b31 =
  (bif b28 then (bif (!b31) then (some (PV.bool true)) else (((wc W n_data_Col [(PV.int .i64 i29), (PV.int .i64 i30)])).bind (fun v32 => (c_i64 v32 (fun v33 => (some (PV.bool (v33 == i27)))))))) else (some (PV.bool false))) := (T4.join [1, 1, 1, 1, 1, 1, 1] _).trans (by kernel_rfl)
theorem e_roadbooklaw04_DataCols (a0 : Int) (a1 : Int) (a2 : Int) : wc W n_roadbooklaw04_DataCols [(PV.int .i64 a0), (PV.int .i64 a1), (PV.int .i64 a2)] =
  (((wc W n_roadbooklaw04_awake [])).bind (fun v1 => (c_b v1 (fun v2 => (((wc W n_data_Col [(PV.int .i64 a0), (PV.int .i64 a1)])).bind (fun v3 => (c_i64 v3 (fun v4 => (((wc W n_data_Split [(PV.int .i64 v4)])).bind (fun v5 => (((PV.asTup v5)).bind (fun v6 => (((v6)[0]?).bind (fun v7 => (c_i64 v7 (fun v8 => (((PV.asTup v5)).bind (fun v9 => (((v9)[1]?).bind (fun v10 => (c_i64 v10 (fun v11 => (((PV.asTup v5)).bind (fun v12 => (((v12)[2]?).bind (fun v13 => (c_b v13 (fun v14 => (bif (decide (GE.ge v4 (0 : Int))) then (bif (!v14) then (some (PV.bool false)) else (bif (v8 != a0) then (some (PV.bool false)) else (bif (v11 != a1) then (some (PV.bool false)) else (bif (decide (v4 < (0 : Int))) then (bif (v4 != (-1 : Int)) then (some (PV.bool false)) else (bif v14 then (some (PV.bool false)) else (J_roadbooklaw04_DataCols_1 a2 v2))) else (J_roadbooklaw04_DataCols_1 a2 v2))))) else (bif (decide (v4 < (0 : Int))) then (bif (v4 != (-1 : Int)) then (some (PV.bool false)) else (bif v14 then (some (PV.bool false)) else (J_roadbooklaw04_DataCols_1 a2 v2))) else (J_roadbooklaw04_DataCols_1 a2 v2))))))))))))))))))))))))))))))) := go (by kernel_rfl) (by kernel_rfl) T4 (by kernel_rfl)
noncomputable def jF5 : Jn PV := (Classical.choose (exT fi5 (fin cfg fi5))).1
noncomputable def lF5 : Ln PV := (Classical.choose (exT fi5 (fin cfg fi5))).2
theorem T5 : Tied cfg W fi5 (fin cfg fi5) jF5 lF5 := Classical.choose_spec (exT fi5 (fin cfg fi5))
noncomputable def J_roadbooklaw04_DataTells_1 (i5 : Int) (i6 : Int) (i7 : Int) (l8 : List PV) (l9 : List PV) : Option PV := jF5 [1, 1, 1, 1] (St.mk [(2, (AV.pv (PV.int .i64 i5))), (3, (AV.pv (PV.int .i64 i6))), (4, (AV.pv (PV.int .i64 i7))), (5, (AV.pv (PV.imm 2 (PV.agg [(PV.slice 3 l8)]) 0))), (6, (AV.pv (PV.imm 2 (PV.agg [(PV.slice 0 l9)]) 0)))] [])
noncomputable def J_roadbooklaw04_DataTells_2 (i64 : Int) (i65 : Int) (l66 : List PV) (l67 : List PV) (b68 : Bool) (l69 : List PV) (l70 : List PV) (l71 : List PV) (l72 : List PV) (l73 : List PV) (l74 : List PV) : Option PV := jF5 [1, 1, 1, 1, 1, 1, 1, 1, 1, 1, 1] (St.mk [(2, (AV.pv (PV.int .i64 i64))), (3, (AV.pv (PV.int .i64 i65))), (5, (AV.pv (PV.imm 2 (PV.agg [(PV.slice 3 l66)]) 0))), (6, (AV.pv (PV.imm 2 (PV.agg [(PV.slice 0 l67)]) 0))), (27, (AV.pv (PV.bool b68)))] [(Ob.var false 3 (AV.pv (PV.agg [(PV.slice 0 l69), (PV.slice 0 l70)]))), (Ob.var false 3 (AV.pv (PV.agg [(PV.slice 0 l71), (PV.slice 0 l72)]))), (Ob.var false 2 (AV.pv (PV.agg [(PV.slice 3 l73)]))), (Ob.var false 2 (AV.pv (PV.agg [(PV.slice 3 l74)])))])
theorem J_roadbooklaw04_DataTells_1_eq (i5 : Int) (i6 : Int) (i7 : Int) (l8 : List PV) (l9 : List PV) : J_roadbooklaw04_DataTells_1 i5 i6 i7 l8 l9 =
  (((wc W n_data_Of [(PV.agg [(PV.slice 3 l8)]), (PV.agg [(PV.slice 0 l9)]), (PV.int .i64 i5), (PV.int .i64 i6)])).bind (fun v10 => (((PV.asTup v10)).bind (fun v11 => (((v11)[0]?).bind (fun v12 => (c_g_s0_s0 v12 (fun v13 v14 => (((PV.asTup v10)).bind (fun v15 => (((v15)[1]?).bind (fun v16 => (c_b v16 (fun v17 => (((wc W n_roadbookref04_Of [(PV.agg [(PV.slice 3 l8)]), (PV.agg [(PV.slice 0 l9)]), (PV.int .i64 i5), (PV.int .i64 i6)])).bind (fun v18 => (((PV.asTup v18)).bind (fun v19 => (((v19)[0]?).bind (fun v20 => (c_g_s0_s0 v20 (fun v21 v22 => (((PV.asTup v18)).bind (fun v23 => (((v23)[1]?).bind (fun v24 => (c_b v24 (fun v25 => (((wc W n_data_New [(PV.slice 3 l8)])).bind (fun v26 => (((PV.asTup v26)).bind (fun v27 => (((v27)[0]?).bind (fun v28 => (c_g_s3 v28 (fun v29 => (((PV.asTup v26)).bind (fun v30 => (((v30)[1]?).bind (fun v31 => (c_b v31 (fun v32 => (((wc W n_roadbookref04_New [(PV.slice 3 l8)])).bind (fun v33 => (((PV.asTup v33)).bind (fun v34 => (((v34)[0]?).bind (fun v35 => (c_g_s3 v35 (fun v36 => (((PV.asTup v33)).bind (fun v37 => (((v37)[1]?).bind (fun v38 => (c_b v38 (fun v39 => (((wc W n_data_Split [(PV.int .i64 i7)])).bind (fun v40 => (((PV.asTup v40)).bind (fun v41 => (((v41)[0]?).bind (fun v42 => (c_i64 v42 (fun v43 => (((PV.asTup v40)).bind (fun v44 => (((v44)[1]?).bind (fun v45 => (c_i64 v45 (fun v46 => (((PV.asTup v40)).bind (fun v47 => (((v47)[2]?).bind (fun v48 => (c_b v48 (fun v49 => (((wc W n_roadbookref04_Split [(PV.int .i64 i7)])).bind (fun v50 => (((PV.asTup v50)).bind (fun v51 => (((v51)[0]?).bind (fun v52 => (c_i64 v52 (fun v53 => (((PV.asTup v50)).bind (fun v54 => (((v54)[1]?).bind (fun v55 => (c_i64 v55 (fun v56 => (((PV.asTup v50)).bind (fun v57 => (((v57)[2]?).bind (fun v58 => (c_b v58 (fun v59 => (((wc W n_roadbookref03_Like [(PV.agg [(PV.slice 0 v13), (PV.slice 0 v14)]), (PV.agg [(PV.slice 0 v21), (PV.slice 0 v22)])])).bind (fun v60 => (c_b v60 (fun v61 => (bif v61 then (bif (v17 == v25) then (((wc W n_roadbookref04_Same [(PV.agg [(PV.slice 3 v29)]), (PV.agg [(PV.slice 3 v36)])])).bind (fun v62 => (c_b v62 (fun v63 => (bif v63 then (bif (v32 == v39) then (bif (v43 == v53) then (bif (v46 == v56) then (J_roadbooklaw04_DataTells_2 i5 i6 l8 l9 (v49 == v59) v13 v14 v21 v22 v29 v36) else (J_roadbooklaw04_DataTells_2 i5 i6 l8 l9 false v13 v14 v21 v22 v29 v36)) else (J_roadbooklaw04_DataTells_2 i5 i6 l8 l9 false v13 v14 v21 v22 v29 v36)) else (J_roadbooklaw04_DataTells_2 i5 i6 l8 l9 false v13 v14 v21 v22 v29 v36)) else (J_roadbooklaw04_DataTells_2 i5 i6 l8 l9 false v13 v14 v21 v22 v29 v36)))))) else (J_roadbooklaw04_DataTells_2 i5 i6 l8 l9 false v13 v14 v21 v22 v29 v36)) else (J_roadbooklaw04_DataTells_2 i5 i6 l8 l9 false v13 v14 v21 v22 v29 v36)))))))))))))))))))))))))))))))))))))))))))))))))))))))))))))))))))))))))))))))))))))))))))))))))))))) := (T5.join [1, 1, 1, 1] _).trans (by kernel_rfl)
theorem J_roadbooklaw04_DataTells_2_eq (i64 : Int) (i65 : Int) (l66 : List PV) (l67 : List PV) (b68 : Bool) (l69 : List PV) (l70 : List PV) (l71 : List PV) (l72 : List PV) (l73 : List PV) (l74 : List PV) : J_roadbooklaw04_DataTells_2 i64 i65 l66 l67 b68 l69 l70 l71 l72 l73 l74 =
  (bif b68 then (((wc W n_data_May [(PV.agg [(PV.slice 3 l66)])])).bind (fun v75 => (c_b v75 (fun v76 => (((wc W n_roadbookref04_May [(PV.agg [(PV.slice 3 l66)])])).bind (fun v77 => (c_b v77 (fun v78 => (bif (v76 == v78) then (((wc W n_data_Fits [(PV.agg [(PV.slice 3 l66)]), (PV.agg [(PV.slice 0 l67)])])).bind (fun v79 => (c_b v79 (fun v80 => (((wc W n_roadbookref04_Fits [(PV.agg [(PV.slice 3 l66)]), (PV.agg [(PV.slice 0 l67)])])).bind (fun v81 => (c_b v81 (fun v82 => (bif (v80 == v82) then (((wc W n_data_Col [(PV.int .i64 i65), (PV.int .i64 i64)])).bind (fun v83 => (c_i64 v83 (fun v84 => (((wc W n_roadbookref04_Col [(PV.int .i64 i65), (PV.int .i64 i64)])).bind (fun v85 => (c_i64 v85 (fun v86 => (some (PV.bool (v84 == v86))))))))))) else (some (PV.bool false))))))))))) else (some (PV.bool false))))))))))) else (some (PV.bool false))) := (T5.join [1, 1, 1, 1, 1, 1, 1, 1, 1, 1, 1] _).trans (by kernel_rfl)
theorem e_roadbooklaw04_DataTells (a0_0 : List PV) (a1_0 : List PV) (a2 : Int) (a3 : Int) (a4 : Int) : wc W n_roadbooklaw04_DataTells [(PV.agg [(PV.slice 3 a0_0)]), (PV.agg [(PV.slice 0 a1_0)]), (PV.int .i64 a2), (PV.int .i64 a3), (PV.int .i64 a4)] =
  (((wc W n_roadbooklaw04_awake [])).bind (fun v1 => (c_b v1 (fun v2 => (((wc W n_roadbooklaw04_few [(PV.agg [(PV.slice 0 a1_0)])])).bind (fun v3 => (c_b v3 (fun v4 => (bif (!v2) then (some (PV.bool v2)) else (bif (!v4) then (some (PV.bool v2)) else (bif (decide (GT.gt (((List.length a0_0) : Nat) : Int) (10 : Int))) then (some (PV.bool v2)) else (J_roadbooklaw04_DataTells_1 a2 a3 a4 a0_0 a1_0)))))))))))) := go (by kernel_rfl) (by kernel_rfl) T5 (by kernel_rfl)
noncomputable def jF6 : Jn PV := (Classical.choose (exT fi6 (fin cfg fi6))).1
noncomputable def lF6 : Ln PV := (Classical.choose (exT fi6 (fin cfg fi6))).2
theorem T6 : Tied cfg W fi6 (fin cfg fi6) jF6 lF6 := Classical.choose_spec (exT fi6 (fin cfg fi6))
noncomputable def J_roadbooklaw04_DataOf_1 (i5 : Int) (i6 : Int) (i7 : Int) (l8 : List PV) (l9 : List PV) : Option PV := jF6 [1, 1, 1, 1] (St.mk [(2, (AV.pv (PV.int .i64 i5))), (3, (AV.pv (PV.int .i64 i6))), (4, (AV.pv (PV.int .i64 i7))), (5, (AV.pv (PV.imm 2 (PV.agg [(PV.slice 3 l8)]) 0))), (6, (AV.pv (PV.imm 2 (PV.agg [(PV.slice 0 l9)]) 0)))] [])
noncomputable def J_roadbooklaw04_DataOf_2 (i26 : Int) (i27 : Int) (i28 : Int) (l29 : List PV) (l30 : List PV) (l31 : List PV) (l32 : List PV) (l33 : List PV) : Option PV := jF6 [1, 1, 1, 1, 1, 1, 1] (St.mk [(2, (AV.pv (PV.int .i64 i26))), (3, (AV.pv (PV.int .i64 i27))), (4, (AV.pv (PV.int .i64 i28))), (6, (AV.pv (PV.imm 2 (PV.agg [(PV.slice 0 l29)]) 0))), (13, (AV.own 0 0)), (15, (AV.own 1 0))] [(Ob.var false 3 (AV.pv (PV.agg [(PV.slice 0 l30), (PV.slice 0 l31)]))), (Ob.var false 3 (AV.pv (PV.agg [(PV.slice 0 l32), (PV.slice 0 l33)])))])
noncomputable def J_roadbooklaw04_DataOf_3 (l48 : List PV) (l49 : List PV) (l50 : List PV) (l51 : List PV) (l52 : List PV) (l53 : List PV) : Option PV := jF6 [1, 1, 1, 1, 1, 1, 1, 1, 1] (St.mk [(13, (AV.own 0 0)), (15, (AV.own 1 0))] [(Ob.var false 3 (AV.pv (PV.agg [(PV.slice 0 l48), (PV.slice 0 l49)]))), (Ob.var false 3 (AV.pv (PV.agg [(PV.slice 0 l50), (PV.slice 0 l51)]))), (Ob.var false 3 (AV.pv (PV.agg [(PV.slice 0 l52), (PV.slice 0 l53)])))])
noncomputable def L_roadbooklaw04_DataOf_4 (i54 : Int) (l55 : List PV) (l56 : List PV) (l57 : List PV) (l58 : List PV) (l59 : List PV) (l60 : List PV) : Option PV := lF6 [0, 1, 0, 1, 1, 1, 1, 1, 1, 1, 1, 1] 3 (St.mk [(13, (AV.own 0 0)), (15, (AV.own 1 0)), (19, (AV.pv (PV.int .i64 i54)))] [(Ob.var false 3 (AV.pv (PV.agg [(PV.slice 0 l55), (PV.slice 0 l56)]))), (Ob.var false 3 (AV.pv (PV.agg [(PV.slice 0 l57), (PV.slice 0 l58)]))), (Ob.var false 3 (AV.pv (PV.agg [(PV.slice 0 l59), (PV.slice 0 l60)])))])
theorem J_roadbooklaw04_DataOf_1_eq (i5 : Int) (i6 : Int) (i7 : Int) (l8 : List PV) (l9 : List PV) : J_roadbooklaw04_DataOf_1 i5 i6 i7 l8 l9 =
  (((wc W n_data_Of [(PV.agg [(PV.slice 3 l8)]), (PV.agg [(PV.slice 0 l9)]), (PV.int .i64 i5), (PV.int .i64 i6)])).bind (fun v10 => (((PV.asTup v10)).bind (fun v11 => (((v11)[0]?).bind (fun v12 => (c_g_s0_s0 v12 (fun v13 v14 => (((PV.asTup v10)).bind (fun v15 => (((v15)[1]?).bind (fun v16 => (c_b v16 (fun v17 => (((wc W n_data_Of [(PV.agg [(PV.slice 3 l8)]), (PV.agg [(PV.slice 0 l9)]), (PV.int .i64 i5), (PV.int .i64 i7)])).bind (fun v18 => (((PV.asTup v18)).bind (fun v19 => (((v19)[0]?).bind (fun v20 => (c_g_s0_s0 v20 (fun v21 v22 => (((PV.asTup v18)).bind (fun v23 => (((v23)[1]?).bind (fun v24 => (c_b v24 (fun v25 => (bif (!v17) then (some (PV.bool true)) else (bif (!v25) then (some (PV.bool true)) else (J_roadbooklaw04_DataOf_2 i5 i6 i7 l9 v13 v14 v21 v22))))))))))))))))))))))))))))))) := (T6.join [1, 1, 1, 1] _).trans (by kernel_rfl)
theorem J_roadbooklaw04_DataOf_2_eq (i26 : Int) (i27 : Int) (i28 : Int) (l29 : List PV) (l30 : List PV) (l31 : List PV) (l32 : List PV) (l33 : List PV) : J_roadbooklaw04_DataOf_2 i26 i27 i28 l29 l30 l31 l32 l33 =
  (((wc W n_bag_Cross [(PV.agg [(PV.slice 0 l30), (PV.slice 0 l31)]), (PV.agg [(PV.slice 0 l32), (PV.slice 0 l33)])])).bind (fun v34 => (((PV.asTup v34)).bind (fun v35 => (((v35)[0]?).bind (fun v36 => (c_g_s0_s0 v36 (fun v37 v38 => (((PV.asTup v34)).bind (fun v39 => (((v39)[1]?).bind (fun v40 => (c_b v40 (fun v41 => (((wc W n_bag_May [(PV.agg [(PV.slice 0 l30), (PV.slice 0 l31)])])).bind (fun v42 => (c_b v42 (fun v43 => (bif (!v43) then (some (PV.bool false)) else (((wc W n_bag_May [(PV.agg [(PV.slice 0 l32), (PV.slice 0 l33)])])).bind (fun v44 => (c_b v44 (fun v45 => (bif (!v45) then (some (PV.bool false)) else (bif ((((List.length l31) : Nat) : Int) != (((List.length l33) : Nat) : Int)) then (some (PV.bool false)) else (bif (v41 == (i27 == i28)) then (some (PV.bool false)) else (bif (decide (i26 < (0 : Int))) then (some (PV.bool false)) else (bif (decide (GE.ge i26 (((List.length l29) : Nat) : Int))) then (some (PV.bool false)) else (bif (decide ((0 : Int) ≤ i26)) then (((l29)[(Int.toNat i26)]?).bind (fun v46 => (c_s0 v46 (fun v47 => (bif ((((List.length l31) : Nat) : Int) != (((List.length v47) : Nat) : Int)) then (some (PV.bool false)) else (J_roadbooklaw04_DataOf_3 l30 l31 l32 l33 v37 v38)))))) else none))))))))))))))))))))))))))))) := (T6.join [1, 1, 1, 1, 1, 1, 1] _).trans (by kernel_rfl)
theorem J_roadbooklaw04_DataOf_3_eq (l48 : List PV) (l49 : List PV) (l50 : List PV) (l51 : List PV) (l52 : List PV) (l53 : List PV) : J_roadbooklaw04_DataOf_3 l48 l49 l50 l51 l52 l53 =
  (L_roadbooklaw04_DataOf_4 (0 : Int) l48 l49 l50 l51 l52 l53) := (T6.join [1, 1, 1, 1, 1, 1, 1, 1, 1] _).trans (by kernel_rfl)
theorem L_roadbooklaw04_DataOf_4_eq (i54 : Int) (l55 : List PV) (l56 : List PV) (l57 : List PV) (l58 : List PV) (l59 : List PV) (l60 : List PV) : L_roadbooklaw04_DataOf_4 i54 l55 l56 l57 l58 l59 l60 =
  (bif (decide (i54 < (((List.length l56) : Nat) : Int))) then (bif (decide ((0 : Int) ≤ i54)) then (((l56)[(Int.toNat i54)]?).bind (fun v61 => (c_s3 v61 (fun v62 => (bif (decide ((0 : Int) ≤ i54)) then (((l58)[(Int.toNat i54)]?).bind (fun v63 => (c_s3 v63 (fun v64 => (((wc W n_roadbookref03_Row [(PV.slice 3 v62), (PV.slice 3 v64)])).bind (fun v65 => (c_b v65 (fun v66 => (bif (!v66) then (some (PV.bool false)) else (L_roadbooklaw04_DataOf_4 (IntKind.wrap .i64 (i54 + (1 : Int) : Int)) l55 l56 l57 l58 l59 l60)))))))))) else none))))) else none) else (some (PV.bool true))) := (T6.loop [1, 1, 1, 1, 1, 1, 1, 1, 1, 0, 1, 0] 3 _ rfl).trans (by kernel_rfl)
theorem e_roadbooklaw04_DataOf (a0_0 : List PV) (a1_0 : List PV) (a2 : Int) (a3 : Int) (a4 : Int) : wc W n_roadbooklaw04_DataOf [(PV.agg [(PV.slice 3 a0_0)]), (PV.agg [(PV.slice 0 a1_0)]), (PV.int .i64 a2), (PV.int .i64 a3), (PV.int .i64 a4)] =
  (((wc W n_roadbooklaw04_awake [])).bind (fun v1 => (c_b v1 (fun v2 => (((wc W n_roadbooklaw04_few [(PV.agg [(PV.slice 0 a1_0)])])).bind (fun v3 => (c_b v3 (fun v4 => (bif (!v2) then (some (PV.bool v2)) else (bif (!v4) then (some (PV.bool v2)) else (bif (decide (GT.gt (((List.length a0_0) : Nat) : Int) (10 : Int))) then (some (PV.bool v2)) else (J_roadbooklaw04_DataOf_1 a2 a3 a4 a0_0 a1_0)))))))))))) := go (by kernel_rfl) (by kernel_rfl) T6 (by kernel_rfl)
noncomputable def jF8 : Jn PV := (Classical.choose (exT fi8 (fin cfg fi8))).1
noncomputable def lF8 : Ln PV := (Classical.choose (exT fi8 (fin cfg fi8))).2
theorem T8 : Tied cfg W fi8 (fin cfg fi8) jF8 lF8 := Classical.choose_spec (exT fi8 (fin cfg fi8))
theorem e_roadbooklaw04_awake  : wc W n_roadbooklaw04_awake [] =
  (((wc W n_roadbooklaw04_Two [])).bind (fun v1 => (((PV.asTup v1)).bind (fun v2 => (((v2)[0]?).bind (fun v3 => (c_g_s3 v3 (fun v4 => (((PV.asTup v1)).bind (fun v5 => (((v5)[1]?).bind (fun v6 => (c_g_s0 v6 (fun v7 => (((wc W n_data_Of [(PV.agg [(PV.slice 3 v4)]), (PV.agg [(PV.slice 0 v7)]), (PV.int .i64 (0 : Int)), (PV.int .i64 (2 : Int))])).bind (fun v8 => (((PV.asTup v8)).bind (fun v9 => (((v9)[0]?).bind (fun v10 => (c_g_s0_s0 v10 (fun v11 v12 => (((PV.asTup v8)).bind (fun v13 => (((v13)[1]?).bind (fun v14 => (c_b v14 (fun v15 => (((wc W n_data_Col [(PV.int .i64 (2 : Int)), (PV.int .i64 (1 : Int))])).bind (fun v16 => (c_i64 v16 (fun v17 => (bif (v17 == (9 : Int)) then (((wc W n_data_May [(PV.agg [(PV.slice 3 v4)])])).bind (fun v18 => (c_b v18 (fun v19 => (bif v19 then (((wc W n_data_Fits [(PV.agg [(PV.slice 3 v4)]), (PV.agg [(PV.slice 0 v7)])])).bind (fun v20 => (c_b v20 (fun v21 => (bif v21 then (bif v15 then (bif ((((List.length v12) : Nat) : Int) == (2 : Int)) then (bif ((((List.length v11) : Nat) : Int) == (2 : Int)) then (((v11)[1]?).bind (fun v22 => (c_i64 v22 (fun v23 => (some (PV.bool (v23 == (9 : Int)))))))) else (some (PV.bool false))) else (some (PV.bool false))) else (some (PV.bool false))) else (some (PV.bool false))))))) else (some (PV.bool false))))))) else (some (PV.bool false))))))))))))))))))))))))))))))))))) := go (by kernel_rfl) (by kernel_rfl) T8 (by kernel_rfl)
noncomputable def jF9 : Jn PV := (Classical.choose (exT fi9 (fin cfg fi9))).1
noncomputable def lF9 : Ln PV := (Classical.choose (exT fi9 (fin cfg fi9))).2
theorem T9 : Tied cfg W fi9 (fin cfg fi9) jF9 lF9 := Classical.choose_spec (exT fi9 (fin cfg fi9))
noncomputable def L_roadbooklaw04_few_1 (l1 : List PV) (b2 : Bool) (i3 : Int) : Option PV := lF9 [0, 1, 0, 1, 1] 0 (St.mk [(1, (AV.pv (PV.imm 2 (PV.agg [(PV.slice 0 l1)]) 0))), (3, (AV.pv (PV.bool b2))), (4, (AV.pv (PV.int .i64 i3)))] [])
noncomputable def J_roadbooklaw04_few_2 (l4 : List PV) (i5 : Int) : Option PV := jF9 [1, 0, 0, 1, 0, 1, 1] (St.mk [(1, (AV.pv (PV.imm 2 (PV.agg [(PV.slice 0 l4)]) 0))), (4, (AV.pv (PV.int .i64 i5)))] [])
noncomputable def L_roadbooklaw04_few_3 (l8 : List PV) (b9 : Bool) (i10 : Int) (i11 : Int) : Option PV := lF9 [0, 1, 1, 0, 0, 1, 0, 0, 1, 0, 1, 1] 0 (St.mk [(1, (AV.pv (PV.imm 2 (PV.agg [(PV.slice 0 l8)]) 0))), (3, (AV.pv (PV.bool b9))), (4, (AV.pv (PV.int .i64 i10))), (5, (AV.pv (PV.int .i64 i11)))] [])
noncomputable def J_roadbooklaw04_few_4 (l14 : List PV) (i15 : Int) (i16 : Int) : Option PV := jF9 [1, 0, 0, 1, 1, 0, 0, 1, 0, 0, 1, 0, 1, 1] (St.mk [(1, (AV.pv (PV.imm 2 (PV.agg [(PV.slice 0 l14)]) 0))), (4, (AV.pv (PV.int .i64 i15))), (5, (AV.pv (PV.int .i64 i16)))] [])
theorem L_roadbooklaw04_few_1_eq (l1 : List PV) (b2 : Bool) (i3 : Int) : L_roadbooklaw04_few_1 l1 b2 i3 =
  (bif (decide (i3 < (((List.length l1) : Nat) : Int))) then (bif b2 then (J_roadbooklaw04_few_2 l1 i3) else (some (PV.bool b2))) else (some (PV.bool b2))) := (T9.loop [1, 1, 0, 1, 0] 0 _ rfl).trans (by kernel_rfl)
theorem J_roadbooklaw04_few_2_eq (l4 : List PV) (i5 : Int) : J_roadbooklaw04_few_2 l4 i5 =
  (bif (decide ((0 : Int) ≤ i5)) then (((l4)[(Int.toNat i5)]?).bind (fun v6 => (c_s0 v6 (fun v7 => (L_roadbooklaw04_few_3 l4 (decide ((((List.length v7) : Nat) : Int) ≤ (20 : Int))) i5 (0 : Int)))))) else none) := (T9.join [1, 1, 0, 1, 0, 0, 1] _).trans (by kernel_rfl)
theorem L_roadbooklaw04_few_3_eq (l8 : List PV) (b9 : Bool) (i10 : Int) (i11 : Int) : L_roadbooklaw04_few_3 l8 b9 i10 i11 =
  (bif (decide ((0 : Int) ≤ i10)) then (((l8)[(Int.toNat i10)]?).bind (fun v12 => (c_s0 v12 (fun v13 => (bif (decide (i11 < (((List.length v13) : Nat) : Int))) then (bif b9 then (J_roadbooklaw04_few_4 l8 i10 i11) else (L_roadbooklaw04_few_1 l8 b9 (IntKind.wrap .i64 (i10 + (1 : Int) : Int)))) else (L_roadbooklaw04_few_1 l8 b9 (IntKind.wrap .i64 (i10 + (1 : Int) : Int)))))))) else none) := (T9.loop [1, 1, 0, 1, 0, 0, 1, 0, 0, 1, 1, 0] 0 _ rfl).trans (by kernel_rfl)
theorem J_roadbooklaw04_few_4_eq (l14 : List PV) (i15 : Int) (i16 : Int) : J_roadbooklaw04_few_4 l14 i15 i16 =
  (bif (decide ((0 : Int) ≤ i15)) then (((l14)[(Int.toNat i15)]?).bind (fun v17 => (c_s0 v17 (fun v18 => (bif (decide ((0 : Int) ≤ i16)) then (((v18)[(Int.toNat i16)]?).bind (fun v19 => (c_s3 v19 (fun v20 => (L_roadbooklaw04_few_3 l14 (decide ((((List.length v20) : Nat) : Int) ≤ (20 : Int))) i15 (IntKind.wrap .i64 (i16 + (1 : Int) : Int))))))) else none))))) else none) := (T9.join [1, 1, 0, 1, 0, 0, 1, 0, 0, 1, 1, 0, 0, 1] _).trans (by kernel_rfl)
theorem e_roadbooklaw04_few (a0_0 : List PV) : wc W n_roadbooklaw04_few [(PV.agg [(PV.slice 0 a0_0)])] =
  (L_roadbooklaw04_few_1 a0_0 (decide ((((List.length a0_0) : Nat) : Int) ≤ (10 : Int))) (0 : Int)) := go (by kernel_rfl) (by kernel_rfl) T9 (by kernel_rfl)
noncomputable def jF10 : Jn PV := (Classical.choose (exT fi10 (fin cfg fi10))).1
noncomputable def lF10 : Ln PV := (Classical.choose (exT fi10 (fin cfg fi10))).2
theorem T10 : Tied cfg W fi10 (fin cfg fi10) jF10 lF10 := Classical.choose_spec (exT fi10 (fin cfg fi10))
noncomputable def J_data_Fits_1 (l3 : List PV) (l4 : List PV) : Option PV := jF10 [1, 1] (St.mk [(2, (AV.pv (PV.imm 2 (PV.agg [(PV.slice 3 l3)]) 0))), (3, (AV.pv (PV.imm 2 (PV.agg [(PV.slice 0 l4)]) 0)))] [])
noncomputable def L_data_Fits_2 (l5 : List PV) (l6 : List PV) (i7 : Int) (i8 : Int) : Option PV := lF10 [0, 1, 0, 1, 1] 0 (St.mk [(2, (AV.pv (PV.imm 2 (PV.agg [(PV.slice 3 l5)]) 0))), (21, (AV.pv (PV.slice 0 l6))), (22, (AV.pv (PV.int .i64 i7))), (23, (AV.pv (PV.int .i64 i8)))] [])
theorem J_data_Fits_1_eq (l3 : List PV) (l4 : List PV) : J_data_Fits_1 l3 l4 =
  (L_data_Fits_2 l3 l4 (((List.length l4) : Nat) : Int) (0 : Int)) := (T10.join [1, 1] _).trans (by kernel_rfl)
theorem L_data_Fits_2_eq (l5 : List PV) (l6 : List PV) (i7 : Int) (i8 : Int) : L_data_Fits_2 l5 l6 i7 i8 =
  (bif (decide (i8 < i7)) then (bif (decide ((0 : Int) ≤ i8)) then (((l6)[(Int.toNat i8)]?).bind (fun v9 => (c_s0 v9 (fun v10 => (bif (decide (GT.gt (((List.length v10) : Nat) : Int) (8 : Int))) then (some (PV.bool false)) else (((W n_slices_ContainsFunc_api_Val_api_Val_3020 false [(AV.pv (PV.slice 0 v10)), (AV.fnv n_data_Fits_1 [] [(AV.pv (PV.imm 2 (PV.agg [(PV.slice 3 l5)]) 0)), (AV.own 0 0)])] [(Ob.var false 0 (AV.pv (PV.int .i64 i8)))])).bind (fun v14 => (k_5b106d v14 (fun v15 v16 => (c_b v15 (fun v17 => (bif v17 then (some (PV.bool false)) else (L_data_Fits_2 l5 l6 i7 (IntKind.wrap .i64 (i8 + (1 : Int) : Int))))))))))))))) else none) else (some (PV.bool true))) := (T10.loop [1, 1, 0, 1, 0] 0 _ rfl).trans (by kernel_rfl)
theorem e_data_Fits (a0_0 : List PV) (a1_0 : List PV) : wc W n_data_Fits [(PV.agg [(PV.slice 3 a0_0)]), (PV.agg [(PV.slice 0 a1_0)])] =
  (((wc W n_data_May [(PV.agg [(PV.slice 3 a0_0)])])).bind (fun v1 => (c_b v1 (fun v2 => (bif (!v2) then (some (PV.bool false)) else (bif ((((List.length a1_0) : Nat) : Int) != (((List.length a0_0) : Nat) : Int)) then (some (PV.bool false)) else (J_data_Fits_1 a0_0 a1_0))))))) := go (by kernel_rfl) (by kernel_rfl) T10 (by kernel_rfl)
noncomputable def jF11 : Jn PV := (Classical.choose (exT fi11 (fin cfg fi11))).1
noncomputable def lF11 : Ln PV := (Classical.choose (exT fi11 (fin cfg fi11))).2
theorem T11 : Tied cfg W fi11 (fin cfg fi11) jF11 lF11 := Classical.choose_spec (exT fi11 (fin cfg fi11))
theorem e_data_May (a0_0 : List PV) : wc W n_data_May [(PV.agg [(PV.slice 3 a0_0)])] =
  (((wc W n_data_in [(PV.int .i64 (((List.length a0_0) : Nat) : Int)), (PV.int .i64 (1 : Int)), (PV.int .i64 (4 : Int))])).bind (fun v1 => (c_b v1 (fun v2 => (bif v2 then (((wc W n_slices_ContainsFunc_api_Def_api_Def [(PV.slice 3 a0_0), (PV.fn n_data_May_1 [] [])])).bind (fun v3 => (c_b v3 (fun v4 => (some (PV.bool (!v4))))))) else (some (PV.bool false))))))) := go (by kernel_rfl) (by kernel_rfl) T11 (by kernel_rfl)
noncomputable def jF12 : Jn PV := (Classical.choose (exT fi12 (fin cfg fi12))).1
noncomputable def lF12 : Ln PV := (Classical.choose (exT fi12 (fin cfg fi12))).2
theorem T12 : Tied cfg W fi12 (fin cfg fi12) jF12 lF12 := Classical.choose_spec (exT fi12 (fin cfg fi12))
noncomputable def J_data_Col_1 (i5 : Int) (i6 : Int) : Option PV := jF12 [1, 1] (St.mk [(0, (AV.pv (PV.int .i64 i5))), (1, (AV.pv (PV.int .i64 i6)))] [])
theorem J_data_Col_1_eq (i5 : Int) (i6 : Int) : J_data_Col_1 i5 i6 =
  (some (PV.int .i64 (IntKind.wrap .i64 ((IntKind.wrap .i64 ((4 : Int) * i5 : Int)) + i6 : Int)))) := (T12.join [1, 1] _).trans (by kernel_rfl)
theorem e_data_Col (a0 : Int) (a1 : Int) : wc W n_data_Col [(PV.int .i64 a0), (PV.int .i64 a1)] =
  (((wc W n_data_in [(PV.int .i64 a0), (PV.int .i64 (0 : Int)), (PV.int .i64 (3 : Int))])).bind (fun v1 => (c_b v1 (fun v2 => (bif (!v2) then (some (PV.int .i64 (-1 : Int))) else (((wc W n_data_in [(PV.int .i64 a1), (PV.int .i64 (0 : Int)), (PV.int .i64 (3 : Int))])).bind (fun v3 => (c_b v3 (fun v4 => (bif (!v4) then (some (PV.int .i64 (-1 : Int))) else (J_data_Col_1 a0 a1))))))))))) := go (by kernel_rfl) (by kernel_rfl) T12 (by kernel_rfl)
noncomputable def jF13 : Jn PV := (Classical.choose (exT fi13 (fin cfg fi13))).1
noncomputable def lF13 : Ln PV := (Classical.choose (exT fi13 (fin cfg fi13))).2
theorem T13 : Tied cfg W fi13 (fin cfg fi13) jF13 lF13 := Classical.choose_spec (exT fi13 (fin cfg fi13))
theorem e_data_Split (a0 : Int) : wc W n_data_Split [(PV.int .i64 a0)] =
  (((wc W n_data_in [(PV.int .i64 a0), (PV.int .i64 (0 : Int)), (PV.int .i64 (15 : Int))])).bind (fun v1 => (c_b v1 (fun v2 => (bif (!v2) then (some (PV.tup [(PV.int .i64 (0 : Int)), (PV.int .i64 (0 : Int)), (PV.bool false)])) else (some (PV.tup [(PV.int .i64 (IntKind.wrap .i64 (Int.tdiv a0 (4 : Int)))), (PV.int .i64 (Int.tmod a0 (4 : Int))), (PV.bool true)]))))))) := go (by kernel_rfl) (by kernel_rfl) T13 (by kernel_rfl)
noncomputable def jF14 : Jn PV := (Classical.choose (exT fi14 (fin cfg fi14))).1
noncomputable def lF14 : Ln PV := (Classical.choose (exT fi14 (fin cfg fi14))).2
theorem T14 : Tied cfg W fi14 (fin cfg fi14) jF14 lF14 := Classical.choose_spec (exT fi14 (fin cfg fi14))
noncomputable def J_data_Of_1 (i7 : Int) (i8 : Int) (l9 : List PV) (l10 : List PV) : Option PV := jF14 [1, 1] (St.mk [(2, (AV.pv (PV.int .i64 i7))), (3, (AV.pv (PV.int .i64 i8))), (4, (AV.pv (PV.imm 2 (PV.agg [(PV.slice 3 l9)]) 0))), (5, (AV.pv (PV.imm 2 (PV.agg [(PV.slice 0 l10)]) 0))), (8, (AV.own 0 0))] [(Ob.var false 3 (AV.agg [(AV.nil 0), (AV.nil 0)]))])
noncomputable def L_data_Of_2 (i14 : Int) (i15 : Int) (l16 : List PV) (i17 : Int) (i18 : Int) (l19 : List PV) : Option PV := lF14 [0, 1, 0, 1, 1, 1] 2 (St.mk [(2, (AV.pv (PV.int .i64 i14))), (3, (AV.pv (PV.int .i64 i15))), (5, (AV.pv (PV.imm 2 (PV.agg [(PV.slice 0 l16)]) 0))), (8, (AV.own 0 0)), (10, (AV.view 1 0 none)), (36, (AV.pv (PV.int .i64 i17))), (37, (AV.pv (PV.int .i64 i18)))] [(Ob.var false 3 (AV.agg [(AV.nil 0), (AV.nil 0)])), (Ob.row false 0 0 l19)])
theorem J_data_Of_1_eq (i7 : Int) (i8 : Int) (l9 : List PV) (l10 : List PV) : J_data_Of_1 i7 i8 l9 l10 =
  (bif (decide ((0 : Int) ≤ i7)) then (((l9)[(Int.toNat i7)]?).bind (fun v11 => (((PV.load 3 v11 0 0)).bind (fun v12 => (c_i64 v12 (fun v13 => (L_data_Of_2 i7 i8 l10 v13 (0 : Int) []))))))) else none) := (T14.join [1, 1] _).trans (by kernel_rfl)
theorem L_data_Of_2_eq (i14 : Int) (i15 : Int) (l16 : List PV) (i17 : Int) (i18 : Int) (l19 : List PV) : L_data_Of_2 i14 i15 l16 i17 i18 l19 =
  (bif (decide (i18 < i17)) then (((wc W n_data_Col [(PV.int .i64 i15), (PV.int .i64 i18)])).bind (fun v20 => (c_i64 v20 (fun v21 => (bif (true && (decide (((List.length l19) + 1 : Nat) ≤ 4294967296))) then (L_data_Of_2 i14 i15 l16 i17 (IntKind.wrap .i64 (i18 + (1 : Int) : Int)) (l19 ++ [(PV.int .i64 v21)])) else none))))) else (bif (decide ((0 : Int) ≤ i14)) then (((l16)[(Int.toNat i14)]?).bind (fun v22 => (c_s0 v22 (fun v23 => (((wc W n_bag_Keep [(PV.agg [(PV.slice 0 l19), (PV.slice 0 v23)]), (PV.slice 6 [])])).bind (fun v24 => (c_g_s0_s0 v24 (fun v25 v26 => (some (PV.tup [(PV.agg [(PV.slice 0 v25), (PV.slice 0 v26)]), (PV.bool true)])))))))))) else none)) := (T14.loop [1, 1, 1, 0, 1, 0] 2 _ rfl).trans (by kernel_rfl)
theorem e_data_Of (a0_0 : List PV) (a1_0 : List PV) (a2 : Int) (a3 : Int) : wc W n_data_Of [(PV.agg [(PV.slice 3 a0_0)]), (PV.agg [(PV.slice 0 a1_0)]), (PV.int .i64 a2), (PV.int .i64 a3)] =
  (((wc W n_data_Fits [(PV.agg [(PV.slice 3 a0_0)]), (PV.agg [(PV.slice 0 a1_0)])])).bind (fun v1 => (c_b v1 (fun v2 => (bif (!v2) then (some (PV.tup [(PV.agg [(PV.slice 0 []), (PV.slice 0 [])]), (PV.bool false)])) else (((wc W n_data_in [(PV.int .i64 a2), (PV.int .i64 (0 : Int)), (PV.int .i64 (IntKind.wrap .i64 ((((List.length a0_0) : Nat) : Int) - (1 : Int) : Int)))])).bind (fun v3 => (c_b v3 (fun v4 => (bif (!v4) then (some (PV.tup [(PV.agg [(PV.slice 0 []), (PV.slice 0 [])]), (PV.bool false)])) else (((wc W n_data_Col [(PV.int .i64 a3), (PV.int .i64 (0 : Int))])).bind (fun v5 => (c_i64 v5 (fun v6 => (bif (v6 == (-1 : Int)) then (some (PV.tup [(PV.agg [(PV.slice 0 []), (PV.slice 0 [])]), (PV.bool false)])) else (J_data_Of_1 a2 a3 a0_0 a1_0)))))))))))))))) := go (by kernel_rfl) (by kernel_rfl) T14 (by kernel_rfl)
noncomputable def jF15 : Jn PV := (Classical.choose (exT fi15 (fin cfg fi15))).1
noncomputable def lF15 : Ln PV := (Classical.choose (exT fi15 (fin cfg fi15))).2
theorem T15 : Tied cfg W fi15 (fin cfg fi15) jF15 lF15 := Classical.choose_spec (exT fi15 (fin cfg fi15))
noncomputable def J_roadbookref04_Of_1 (i3 : Int) (i4 : Int) (l5 : List PV) (l6 : List PV) : Option PV := jF15 [1, 1, 1] (St.mk [(2, (AV.pv (PV.int .i64 i3))), (3, (AV.pv (PV.int .i64 i4))), (4, (AV.pv (PV.imm 2 (PV.agg [(PV.slice 3 l5)]) 0))), (5, (AV.pv (PV.imm 2 (PV.agg [(PV.slice 0 l6)]) 0))), (8, (AV.own 0 0))] [(Ob.var false 3 (AV.agg [(AV.nil 0), (AV.nil 0)]))])
noncomputable def L_roadbookref04_Of_2 (i9 : Int) (i10 : Int) (l11 : List PV) (i12 : Int) (l13 : List PV) (l14 : List PV) (l15 : List PV) (l16 : List PV) : Option PV := lF15 [0, 1, 0, 1, 1, 1, 1] 5 (St.mk [(2, (AV.pv (PV.int .i64 i9))), (3, (AV.pv (PV.int .i64 i10))), (4, (AV.pv (PV.imm 2 (PV.agg [(PV.slice 3 l11)]) 0))), (8, (AV.own 0 0)), (11, (AV.own 3 0)), (12, (AV.pv (PV.int .i64 i12)))] [(Ob.var false 3 (AV.agg [(AV.nil 0), (AV.nil 0)])), (Ob.row false 0 0 l13), (Ob.row false 0 0 l14), (Ob.var false 3 (AV.agg [(AV.view 4 0 none), (AV.pv (PV.slice 0 l15))])), (Ob.row false 0 0 l16)])
theorem J_roadbookref04_Of_1_eq (i3 : Int) (i4 : Int) (l5 : List PV) (l6 : List PV) : J_roadbookref04_Of_1 i3 i4 l5 l6 =
  (bif (decide ((0 : Int) ≤ i3)) then (((l6)[(Int.toNat i3)]?).bind (fun v7 => (c_s0 v7 (fun v8 => (L_roadbookref04_Of_2 i3 i4 l5 (0 : Int) [] [] v8 []))))) else none) := (T15.join [1, 1, 1] _).trans (by kernel_rfl)
theorem L_roadbookref04_Of_2_eq (i9 : Int) (i10 : Int) (l11 : List PV) (i12 : Int) (l13 : List PV) (l14 : List PV) (l15 : List PV) (l16 : List PV) : L_roadbookref04_Of_2 i9 i10 l11 i12 l13 l14 l15 l16 =
  (bif (decide ((0 : Int) ≤ i9)) then (((l11)[(Int.toNat i9)]?).bind (fun v17 => (((PV.load 3 v17 0 0)).bind (fun v18 => (c_i64 v18 (fun v19 => (bif (decide (i12 < v19)) then (bif (true && (decide (((List.length l16) + 1 : Nat) ≤ 4294967296))) then (L_roadbookref04_Of_2 i9 i10 l11 (IntKind.wrap .i64 (i12 + (1 : Int) : Int)) l13 l14 l15 (l16 ++ [(PV.int .i64 (IntKind.wrap .i64 ((IntKind.wrap .i64 ((4 : Int) * i10 : Int)) + i12 : Int)))])) else none) else (some (PV.tup [(PV.agg [(PV.slice 0 l16), (PV.slice 0 l15)]), (PV.bool true)]))))))))) else none) := (T15.loop [1, 1, 1, 1, 0, 1, 0] 5 _ rfl).trans (by kernel_rfl)
theorem e_roadbookref04_Of (a0_0 : List PV) (a1_0 : List PV) (a2 : Int) (a3 : Int) : wc W n_roadbookref04_Of [(PV.agg [(PV.slice 3 a0_0)]), (PV.agg [(PV.slice 0 a1_0)]), (PV.int .i64 a2), (PV.int .i64 a3)] =
  (((wc W n_roadbookref04_Fits [(PV.agg [(PV.slice 3 a0_0)]), (PV.agg [(PV.slice 0 a1_0)])])).bind (fun v1 => (c_b v1 (fun v2 => (bif (!v2) then (some (PV.tup [(PV.agg [(PV.slice 0 []), (PV.slice 0 [])]), (PV.bool false)])) else (bif (decide (a2 < (0 : Int))) then (some (PV.tup [(PV.agg [(PV.slice 0 []), (PV.slice 0 [])]), (PV.bool false)])) else (bif (decide (GE.ge a2 (((List.length a0_0) : Nat) : Int))) then (some (PV.tup [(PV.agg [(PV.slice 0 []), (PV.slice 0 [])]), (PV.bool false)])) else (bif (decide (a3 < (0 : Int))) then (some (PV.tup [(PV.agg [(PV.slice 0 []), (PV.slice 0 [])]), (PV.bool false)])) else (bif (decide (GT.gt a3 (3 : Int))) then (some (PV.tup [(PV.agg [(PV.slice 0 []), (PV.slice 0 [])]), (PV.bool false)])) else (J_roadbookref04_Of_1 a2 a3 a0_0 a1_0)))))))))) := go (by kernel_rfl) (by kernel_rfl) T15 (by kernel_rfl)
noncomputable def jF16 : Jn PV := (Classical.choose (exT fi16 (fin cfg fi16))).1
noncomputable def lF16 : Ln PV := (Classical.choose (exT fi16 (fin cfg fi16))).2
theorem T16 : Tied cfg W fi16 (fin cfg fi16) jF16 lF16 := Classical.choose_spec (exT fi16 (fin cfg fi16))
theorem e_data_New (a0 : List PV) : wc W n_data_New [(PV.slice 3 a0)] =
  (((wc W n_slices_Clone_api_Def_api_Def [(PV.slice 3 a0)])).bind (fun v1 => (c_s3 v1 (fun v2 => (((wc W n_data_May [(PV.agg [(PV.slice 3 v2)])])).bind (fun v3 => (c_b v3 (fun v4 => (bif (!v4) then (some (PV.tup [(PV.agg [(PV.slice 3 [])]), (PV.bool false)])) else (some (PV.tup [(PV.agg [(PV.slice 3 v2)]), (PV.bool true)]))))))))))) := go (by kernel_rfl) (by kernel_rfl) T16 (by kernel_rfl)
noncomputable def jF17 : Jn PV := (Classical.choose (exT fi17 (fin cfg fi17))).1
noncomputable def lF17 : Ln PV := (Classical.choose (exT fi17 (fin cfg fi17))).2
theorem T17 : Tied cfg W fi17 (fin cfg fi17) jF17 lF17 := Classical.choose_spec (exT fi17 (fin cfg fi17))
theorem e_roadbookref04_New (a0 : List PV) : wc W n_roadbookref04_New [(PV.slice 3 a0)] =
  (((wc W n_roadbookref04_May [(PV.agg [(PV.slice 3 a0)])])).bind (fun v1 => (c_b v1 (fun v2 => (bif (!v2) then (some (PV.tup [(PV.agg [(PV.slice 3 [])]), (PV.bool false)])) else (some (PV.tup [(PV.agg [(PV.slice 3 a0)]), (PV.bool true)]))))))) := go (by kernel_rfl) (by kernel_rfl) T17 (by kernel_rfl)
noncomputable def jF18 : Jn PV := (Classical.choose (exT fi18 (fin cfg fi18))).1
noncomputable def lF18 : Ln PV := (Classical.choose (exT fi18 (fin cfg fi18))).2
theorem T18 : Tied cfg W fi18 (fin cfg fi18) jF18 lF18 := Classical.choose_spec (exT fi18 (fin cfg fi18))
noncomputable def J_roadbookref04_Split_1 (i1 : Int) : Option PV := jF18 [1, 1] (St.mk [(0, (AV.pv (PV.int .i64 i1)))] [])
theorem J_roadbookref04_Split_1_eq (i1 : Int) : J_roadbookref04_Split_1 i1 =
  (some (PV.tup [(PV.int .i64 (IntKind.wrap .i64 (Int.tdiv i1 (4 : Int)))), (PV.int .i64 (Int.tmod i1 (4 : Int))), (PV.bool true)])) := (T18.join [1, 1] _).trans (by kernel_rfl)
theorem e_roadbookref04_Split (a0 : Int) : wc W n_roadbookref04_Split [(PV.int .i64 a0)] =
  (bif (decide (a0 < (0 : Int))) then (some (PV.tup [(PV.int .i64 (0 : Int)), (PV.int .i64 (0 : Int)), (PV.bool false)])) else (bif (decide (GT.gt a0 (15 : Int))) then (some (PV.tup [(PV.int .i64 (0 : Int)), (PV.int .i64 (0 : Int)), (PV.bool false)])) else (J_roadbookref04_Split_1 a0))) := go (by kernel_rfl) (by kernel_rfl) T18 (by kernel_rfl)
noncomputable def jF19 : Jn PV := (Classical.choose (exT fi19 (fin cfg fi19))).1
noncomputable def lF19 : Ln PV := (Classical.choose (exT fi19 (fin cfg fi19))).2
theorem T19 : Tied cfg W fi19 (fin cfg fi19) jF19 lF19 := Classical.choose_spec (exT fi19 (fin cfg fi19))
noncomputable def J_roadbookref03_Like_1 (l3 : List PV) (l4 : List PV) (l5 : List PV) (l6 : List PV) : Option PV := jF19 [1, 1, 1] (St.mk [(2, (AV.pv (PV.imm 3 (PV.agg [(PV.slice 0 l3), (PV.slice 0 l4)]) 0))), (3, (AV.pv (PV.imm 3 (PV.agg [(PV.slice 0 l5), (PV.slice 0 l6)]) 0)))] [])
noncomputable def L_roadbookref03_Like_2 (l7 : List PV) (l8 : List PV) (l9 : List PV) (l10 : List PV) (i11 : Int) : Option PV := lF19 [0, 1, 0, 1, 1, 1] 0 (St.mk [(2, (AV.pv (PV.imm 3 (PV.agg [(PV.slice 0 l7), (PV.slice 0 l8)]) 0))), (3, (AV.pv (PV.imm 3 (PV.agg [(PV.slice 0 l9), (PV.slice 0 l10)]) 0))), (6, (AV.pv (PV.int .i64 i11)))] [])
theorem J_roadbookref03_Like_1_eq (l3 : List PV) (l4 : List PV) (l5 : List PV) (l6 : List PV) : J_roadbookref03_Like_1 l3 l4 l5 l6 =
  (L_roadbookref03_Like_2 l3 l4 l5 l6 (0 : Int)) := (T19.join [1, 1, 1] _).trans (by kernel_rfl)
theorem L_roadbookref03_Like_2_eq (l7 : List PV) (l8 : List PV) (l9 : List PV) (l10 : List PV) (i11 : Int) : L_roadbookref03_Like_2 l7 l8 l9 l10 i11 =
  (bif (decide (i11 < (((List.length l8) : Nat) : Int))) then (bif (decide ((0 : Int) ≤ i11)) then (((l8)[(Int.toNat i11)]?).bind (fun v12 => (c_s3 v12 (fun v13 => (bif (decide ((0 : Int) ≤ i11)) then (((l10)[(Int.toNat i11)]?).bind (fun v14 => (c_s3 v14 (fun v15 => (((wc W n_roadbookref03_Row [(PV.slice 3 v13), (PV.slice 3 v15)])).bind (fun v16 => (c_b v16 (fun v17 => (bif (!v17) then (some (PV.bool false)) else (L_roadbookref03_Like_2 l7 l8 l9 l10 (IntKind.wrap .i64 (i11 + (1 : Int) : Int)))))))))))) else none))))) else none) else (some (PV.bool true))) := (T19.loop [1, 1, 1, 0, 1, 0] 0 _ rfl).trans (by kernel_rfl)
theorem e_roadbookref03_Like (a0_0 : List PV) (a0_1 : List PV) (a1_0 : List PV) (a1_1 : List PV) : wc W n_roadbookref03_Like [(PV.agg [(PV.slice 0 a0_0), (PV.slice 0 a0_1)]), (PV.agg [(PV.slice 0 a1_0), (PV.slice 0 a1_1)])] =
  (((wc W n_roadbookref02_Ints [(PV.slice 0 a0_0), (PV.slice 0 a1_0)])).bind (fun v1 => (c_b v1 (fun v2 => (bif (!v2) then (some (PV.bool false)) else (bif ((((List.length a0_1) : Nat) : Int) != (((List.length a1_1) : Nat) : Int)) then (some (PV.bool false)) else (J_roadbookref03_Like_1 a0_0 a0_1 a1_0 a1_1))))))) := go (by kernel_rfl) (by kernel_rfl) T19 (by kernel_rfl)
noncomputable def jF20 : Jn PV := (Classical.choose (exT fi20 (fin cfg fi20))).1
noncomputable def lF20 : Ln PV := (Classical.choose (exT fi20 (fin cfg fi20))).2
theorem T20 : Tied cfg W fi20 (fin cfg fi20) jF20 lF20 := Classical.choose_spec (exT fi20 (fin cfg fi20))
noncomputable def L_roadbookref04_Same_1 (l1 : List PV) (l2 : List PV) (i3 : Int) : Option PV := lF20 [0, 1, 0, 1, 1] 0 (St.mk [(2, (AV.pv (PV.imm 2 (PV.agg [(PV.slice 3 l1)]) 0))), (3, (AV.pv (PV.imm 2 (PV.agg [(PV.slice 3 l2)]) 0))), (5, (AV.pv (PV.int .i64 i3)))] [])
theorem L_roadbookref04_Same_1_eq (l1 : List PV) (l2 : List PV) (i3 : Int) : L_roadbookref04_Same_1 l1 l2 i3 =
  (bif (decide (i3 < (((List.length l1) : Nat) : Int))) then (bif (decide ((0 : Int) ≤ i3)) then (((l1)[(Int.toNat i3)]?).bind (fun v4 => (c_g_i64_i64 v4 (fun v5 v6 => (bif (decide ((0 : Int) ≤ i3)) then (((l2)[(Int.toNat i3)]?).bind (fun v7 => (c_g_i64_i64 v7 (fun v8 v9 => (((((bif (v5 == v8) then (bif (v6 == v9) then (some true) else (some false)) else (some false))).bind (fun v10 => (some (PV.bool (!v10)))))).bind (fun v11 => (c_b v11 (fun v12 => (bif v12 then (some (PV.bool false)) else (L_roadbookref04_Same_1 l1 l2 (IntKind.wrap .i64 (i3 + (1 : Int) : Int)))))))))))) else none))))) else none) else (some (PV.bool true))) := (T20.loop [1, 1, 0, 1, 0] 0 _ rfl).trans (by kernel_rfl)
theorem e_roadbookref04_Same (a0_0 : List PV) (a1_0 : List PV) : wc W n_roadbookref04_Same [(PV.agg [(PV.slice 3 a0_0)]), (PV.agg [(PV.slice 3 a1_0)])] =
  (bif ((((List.length a0_0) : Nat) : Int) != (((List.length a1_0) : Nat) : Int)) then (some (PV.bool false)) else (L_roadbookref04_Same_1 a0_0 a1_0 (0 : Int))) := go (by kernel_rfl) (by kernel_rfl) T20 (by kernel_rfl)
end Go.Cf

namespace Go.Cf
open Go Go.Ab
set_option linter.unusedVariables false
set_option maxRecDepth 100000
noncomputable def jF21 : Jn PV := (Classical.choose (exT fi21 (fin cfg fi21))).1
noncomputable def lF21 : Ln PV := (Classical.choose (exT fi21 (fin cfg fi21))).2
theorem T21 : Tied cfg W fi21 (fin cfg fi21) jF21 lF21 := Classical.choose_spec (exT fi21 (fin cfg fi21))
noncomputable def L_roadbookref04_May_1 (l1 : List PV) (i2 : Int) : Option PV := lF21 [0, 1, 0, 1] 0 (St.mk [(1, (AV.pv (PV.imm 2 (PV.agg [(PV.slice 3 l1)]) 0))), (3, (AV.pv (PV.int .i64 i2)))] [])
theorem L_roadbookref04_May_1_eq (l1 : List PV) (i2 : Int) : L_roadbookref04_May_1 l1 i2 =
  (bif (decide (i2 < (((List.length l1) : Nat) : Int))) then (bif (decide ((0 : Int) ≤ i2)) then (((l1)[(Int.toNat i2)]?).bind (fun v3 => (((PV.load 3 v3 0 0)).bind (fun v4 => (c_i64 v4 (fun v5 => (bif (decide (v5 < (1 : Int))) then (some (PV.bool false)) else (bif (decide ((0 : Int) ≤ i2)) then (((l1)[(Int.toNat i2)]?).bind (fun v6 => (((PV.load 3 v6 0 0)).bind (fun v7 => (c_i64 v7 (fun v8 => (bif (decide (GT.gt v8 (4 : Int))) then (some (PV.bool false)) else (bif (decide ((0 : Int) ≤ i2)) then (((l1)[(Int.toNat i2)]?).bind (fun v9 => (((PV.load 3 v9 1 0)).bind (fun v10 => (c_i64 v10 (fun v11 => (bif (decide (v11 < (1 : Int))) then (some (PV.bool false)) else (bif (decide ((0 : Int) ≤ i2)) then (((l1)[(Int.toNat i2)]?).bind (fun v12 => (((PV.load 3 v12 1 0)).bind (fun v13 => (c_i64 v13 (fun v14 => (bif (decide (GT.gt v14 (1000000 : Int))) then (some (PV.bool false)) else (L_roadbookref04_May_1 l1 (IntKind.wrap .i64 (i2 + (1 : Int) : Int)))))))))) else none)))))))) else none)))))))) else none)))))))) else none) else (bif (decide (GE.ge (((List.length l1) : Nat) : Int) (1 : Int))) then (some (PV.bool (decide ((((List.length l1) : Nat) : Int) ≤ (4 : Int))))) else (some (PV.bool false)))) := (T21.loop [1, 0, 1, 0] 0 _ rfl).trans (by kernel_rfl)
theorem e_roadbookref04_May (a0_0 : List PV) : wc W n_roadbookref04_May [(PV.agg [(PV.slice 3 a0_0)])] =
  (L_roadbookref04_May_1 a0_0 (0 : Int)) := go (by kernel_rfl) (by kernel_rfl) T21 (by kernel_rfl)
noncomputable def jF22 : Jn PV := (Classical.choose (exT fi22 (fin cfg fi22))).1
noncomputable def lF22 : Ln PV := (Classical.choose (exT fi22 (fin cfg fi22))).2
theorem T22 : Tied cfg W fi22 (fin cfg fi22) jF22 lF22 := Classical.choose_spec (exT fi22 (fin cfg fi22))
noncomputable def J_roadbookref04_Fits_1 (l3 : List PV) (l4 : List PV) : Option PV := jF22 [1, 1, 1] (St.mk [(2, (AV.pv (PV.imm 2 (PV.agg [(PV.slice 3 l3)]) 0))), (3, (AV.pv (PV.imm 2 (PV.agg [(PV.slice 0 l4)]) 0)))] [])
noncomputable def L_roadbookref04_Fits_2 (l5 : List PV) (l6 : List PV) (i7 : Int) : Option PV := lF22 [0, 1, 0, 1, 1, 1] 0 (St.mk [(2, (AV.pv (PV.imm 2 (PV.agg [(PV.slice 3 l5)]) 0))), (3, (AV.pv (PV.imm 2 (PV.agg [(PV.slice 0 l6)]) 0))), (6, (AV.pv (PV.int .i64 i7)))] [])
noncomputable def L_roadbookref04_Fits_3 (l10 : List PV) (l11 : List PV) (i12 : Int) (i13 : Int) : Option PV := lF22 [0, 1, 1, 0, 0, 1, 0, 0, 1, 0, 1, 1, 1] 0 (St.mk [(2, (AV.pv (PV.imm 2 (PV.agg [(PV.slice 3 l10)]) 0))), (3, (AV.pv (PV.imm 2 (PV.agg [(PV.slice 0 l11)]) 0))), (6, (AV.pv (PV.int .i64 i12))), (7, (AV.pv (PV.int .i64 i13)))] [])
noncomputable def L_roadbookref04_Fits_4 (l23 : List PV) (l24 : List PV) (i25 : Int) (i26 : Int) (i27 : Int) : Option PV := lF22 [0, 1, 1, 0, 0, 1, 0, 0, 1, 1, 0, 0, 1, 0, 0, 1, 0, 1, 1, 1] 0 (St.mk [(2, (AV.pv (PV.imm 2 (PV.agg [(PV.slice 3 l23)]) 0))), (3, (AV.pv (PV.imm 2 (PV.agg [(PV.slice 0 l24)]) 0))), (6, (AV.pv (PV.int .i64 i25))), (7, (AV.pv (PV.int .i64 i26))), (8, (AV.pv (PV.int .i64 i27)))] [])
theorem J_roadbookref04_Fits_1_eq (l3 : List PV) (l4 : List PV) : J_roadbookref04_Fits_1 l3 l4 =
  (L_roadbookref04_Fits_2 l3 l4 (0 : Int)) := (T22.join [1, 1, 1] _).trans (by kernel_rfl)
theorem L_roadbookref04_Fits_2_eq (l5 : List PV) (l6 : List PV) (i7 : Int) : L_roadbookref04_Fits_2 l5 l6 i7 =
  (bif (decide (i7 < (((List.length l6) : Nat) : Int))) then (bif (decide ((0 : Int) ≤ i7)) then (((l6)[(Int.toNat i7)]?).bind (fun v8 => (c_s0 v8 (fun v9 => (bif (decide (GT.gt (((List.length v9) : Nat) : Int) (8 : Int))) then (some (PV.bool false)) else (L_roadbookref04_Fits_3 l5 l6 i7 (0 : Int))))))) else none) else (some (PV.bool true))) := (T22.loop [1, 1, 1, 0, 1, 0] 0 _ rfl).trans (by kernel_rfl)
theorem L_roadbookref04_Fits_3_eq (l10 : List PV) (l11 : List PV) (i12 : Int) (i13 : Int) : L_roadbookref04_Fits_3 l10 l11 i12 i13 =
  (bif (decide ((0 : Int) ≤ i12)) then (((l11)[(Int.toNat i12)]?).bind (fun v14 => (c_s0 v14 (fun v15 => (bif (decide (i13 < (((List.length v15) : Nat) : Int))) then (bif (decide ((0 : Int) ≤ i12)) then (((l11)[(Int.toNat i12)]?).bind (fun v16 => (c_s0 v16 (fun v17 => (bif (decide ((0 : Int) ≤ i13)) then (((v17)[(Int.toNat i13)]?).bind (fun v18 => (c_s3 v18 (fun v19 => (bif (decide ((0 : Int) ≤ i12)) then (((l10)[(Int.toNat i12)]?).bind (fun v20 => (((PV.load 3 v20 0 0)).bind (fun v21 => (c_i64 v21 (fun v22 => (bif ((((List.length v19) : Nat) : Int) != v22) then (some (PV.bool false)) else (L_roadbookref04_Fits_4 l10 l11 i12 i13 (0 : Int))))))))) else none))))) else none))))) else none) else (L_roadbookref04_Fits_2 l10 l11 (IntKind.wrap .i64 (i12 + (1 : Int) : Int)))))))) else none) := (T22.loop [1, 1, 1, 0, 1, 0, 0, 1, 0, 0, 1, 1, 0] 0 _ rfl).trans (by kernel_rfl)
theorem L_roadbookref04_Fits_4_eq (l23 : List PV) (l24 : List PV) (i25 : Int) (i26 : Int) (i27 : Int) : L_roadbookref04_Fits_4 l23 l24 i25 i26 i27 =
  (bif (decide ((0 : Int) ≤ i25)) then (((l24)[(Int.toNat i25)]?).bind (fun v28 => (c_s0 v28 (fun v29 => (bif (decide ((0 : Int) ≤ i26)) then (((v29)[(Int.toNat i26)]?).bind (fun v30 => (c_s3 v30 (fun v31 => (bif (decide (i27 < (((List.length v31) : Nat) : Int))) then (bif (decide ((0 : Int) ≤ i25)) then (((l24)[(Int.toNat i25)]?).bind (fun v32 => (c_s0 v32 (fun v33 => (bif (decide ((0 : Int) ≤ i26)) then (((v33)[(Int.toNat i26)]?).bind (fun v34 => (c_s3 v34 (fun v35 => (bif (decide ((0 : Int) ≤ i27)) then (((v35)[(Int.toNat i27)]?).bind (fun v36 => (c_g_i64_i64 v36 (fun v37 v38 => (((wc W n_roadbookref01_May [(PV.agg [(PV.int .i64 v37), (PV.int .i64 v38)])])).bind (fun v39 => (c_b v39 (fun v40 => (bif (!v40) then (some (PV.bool false)) else (L_roadbookref04_Fits_4 l23 l24 i25 i26 (IntKind.wrap .i64 (i27 + (1 : Int) : Int)))))))))))) else none))))) else none))))) else none) else (L_roadbookref04_Fits_3 l23 l24 i25 (IntKind.wrap .i64 (i26 + (1 : Int) : Int)))))))) else none))))) else none) := (T22.loop [1, 1, 1, 0, 1, 0, 0, 1, 0, 0, 1, 1, 0, 0, 1, 0, 0, 1, 1, 0] 0 _ rfl).trans (by kernel_rfl)
theorem e_roadbookref04_Fits (a0_0 : List PV) (a1_0 : List PV) : wc W n_roadbookref04_Fits [(PV.agg [(PV.slice 3 a0_0)]), (PV.agg [(PV.slice 0 a1_0)])] =
  (((wc W n_roadbookref04_May [(PV.agg [(PV.slice 3 a0_0)])])).bind (fun v1 => (c_b v1 (fun v2 => (bif (!v2) then (some (PV.bool false)) else (bif ((((List.length a1_0) : Nat) : Int) != (((List.length a0_0) : Nat) : Int)) then (some (PV.bool false)) else (J_roadbookref04_Fits_1 a0_0 a1_0))))))) := go (by kernel_rfl) (by kernel_rfl) T22 (by kernel_rfl)
noncomputable def jF23 : Jn PV := (Classical.choose (exT fi23 (fin cfg fi23))).1
noncomputable def lF23 : Ln PV := (Classical.choose (exT fi23 (fin cfg fi23))).2
theorem T23 : Tied cfg W fi23 (fin cfg fi23) jF23 lF23 := Classical.choose_spec (exT fi23 (fin cfg fi23))
noncomputable def J_roadbookref04_Col_1 (i1 : Int) (i2 : Int) : Option PV := jF23 [1, 1] (St.mk [(0, (AV.pv (PV.int .i64 i1))), (1, (AV.pv (PV.int .i64 i2)))] [])
theorem J_roadbookref04_Col_1_eq (i1 : Int) (i2 : Int) : J_roadbookref04_Col_1 i1 i2 =
  (some (PV.int .i64 (IntKind.wrap .i64 ((IntKind.wrap .i64 ((4 : Int) * i1 : Int)) + i2 : Int)))) := (T23.join [1, 1] _).trans (by kernel_rfl)
theorem e_roadbookref04_Col (a0 : Int) (a1 : Int) : wc W n_roadbookref04_Col [(PV.int .i64 a0), (PV.int .i64 a1)] =
  (bif (decide (a0 < (0 : Int))) then (some (PV.int .i64 (-1 : Int))) else (bif (decide (GT.gt a0 (3 : Int))) then (some (PV.int .i64 (-1 : Int))) else (bif (decide (a1 < (0 : Int))) then (some (PV.int .i64 (-1 : Int))) else (bif (decide (GT.gt a1 (3 : Int))) then (some (PV.int .i64 (-1 : Int))) else (J_roadbookref04_Col_1 a0 a1))))) := go (by kernel_rfl) (by kernel_rfl) T23 (by kernel_rfl)
noncomputable def jF24 : Jn PV := (Classical.choose (exT fi24 (fin cfg fi24))).1
noncomputable def lF24 : Ln PV := (Classical.choose (exT fi24 (fin cfg fi24))).2
theorem T24 : Tied cfg W fi24 (fin cfg fi24) jF24 lF24 := Classical.choose_spec (exT fi24 (fin cfg fi24))
noncomputable def J_bag_Cross_1 (l9 : List PV) (l10 : List PV) (l11 : List PV) (l12 : List PV) (l13 : List PV) (l14 : List PV) (l15 : List PV) (l16 : List PV) : Option PV := jF24 [1, 1, 1] (St.mk [(2, (AV.pv (PV.imm 3 (PV.agg [(PV.slice 0 l9), (PV.slice 0 l10)]) 0))), (3, (AV.pv (PV.imm 3 (PV.agg [(PV.slice 0 l11), (PV.slice 0 l12)]) 0))), (4, (AV.own 0 0)), (6, (AV.own 3 0))] [(Ob.var false 3 (AV.agg [(AV.nil 0), (AV.nil 0)])), (Ob.row false 0 0 l13), (Ob.row false 0 0 l14), (Ob.var false 3 (AV.agg [(AV.pv (PV.slice 0 l15)), (AV.view 4 0 none)])), (Ob.row true 0 0 l16)])
noncomputable def L_bag_Cross_2 (l17 : List PV) (l18 : List PV) (l19 : List PV) (i20 : Int) (i21 : Int) (l22 : List PV) (l23 : List PV) (l24 : List PV) (l25 : List PV) : Option PV := lF24 [0, 1, 0, 1, 1, 1] 5 (St.mk [(3, (AV.pv (PV.imm 3 (PV.agg [(PV.slice 0 l17), (PV.slice 0 l18)]) 0))), (4, (AV.own 0 0)), (6, (AV.own 3 0)), (45, (AV.pv (PV.slice 0 l19))), (46, (AV.pv (PV.int .i64 i20))), (47, (AV.pv (PV.int .i64 i21)))] [(Ob.var false 3 (AV.agg [(AV.nil 0), (AV.nil 0)])), (Ob.row false 0 0 l22), (Ob.row false 0 0 l23), (Ob.var false 3 (AV.agg [(AV.pv (PV.slice 0 l24)), (AV.view 4 0 none)])), (Ob.row true 0 0 l25)])
noncomputable def L_bag_Cross_3 (l28 : List PV) (l29 : List PV) (l30 : List PV) (l31 : List PV) (i32 : Int) (i33 : Int) (l34 : List PV) (i35 : Int) (i36 : Int) (l37 : List PV) (l38 : List PV) (l39 : List PV) (l40 : List PV) : Option PV := lF24 [0, 1, 1, 0, 0, 1, 1, 5, 0, 1, 0, 1, 1, 1] 5 (St.mk [(3, (AV.pv (PV.imm 3 (PV.agg [(PV.slice 0 l28), (PV.slice 0 l29)]) 0))), (4, (AV.own 0 0)), (6, (AV.own 3 0)), (8, (AV.pv (PV.slice 3 l30))), (45, (AV.pv (PV.slice 0 l31))), (46, (AV.pv (PV.int .i64 i32))), (47, (AV.pv (PV.int .i64 i33))), (52, (AV.pv (PV.slice 0 l34))), (53, (AV.pv (PV.int .i64 i35))), (54, (AV.pv (PV.int .i64 i36)))] [(Ob.var false 3 (AV.agg [(AV.nil 0), (AV.nil 0)])), (Ob.row false 0 0 l37), (Ob.row false 0 0 l38), (Ob.var false 3 (AV.agg [(AV.pv (PV.slice 0 l39)), (AV.view 4 0 none)])), (Ob.row true 0 0 l40)])
theorem J_bag_Cross_1_eq (l9 : List PV) (l10 : List PV) (l11 : List PV) (l12 : List PV) (l13 : List PV) (l14 : List PV) (l15 : List PV) (l16 : List PV) : J_bag_Cross_1 l9 l10 l11 l12 l13 l14 l15 l16 =
  (L_bag_Cross_2 l11 l12 l10 (((List.length l10) : Nat) : Int) (0 : Int) l13 l14 l15 l16) := (T24.join [1, 1, 1] _).trans (by kernel_rfl)
theorem L_bag_Cross_2_eq (l17 : List PV) (l18 : List PV) (l19 : List PV) (i20 : Int) (i21 : Int) (l22 : List PV) (l23 : List PV) (l24 : List PV) (l25 : List PV) : L_bag_Cross_2 l17 l18 l19 i20 i21 l22 l23 l24 l25 =
  (bif (decide (i21 < i20)) then (bif (decide ((0 : Int) ≤ i21)) then (((l19)[(Int.toNat i21)]?).bind (fun v26 => (c_s3 v26 (fun v27 => (L_bag_Cross_3 l17 l18 v27 l19 i20 i21 l18 (((List.length l18) : Nat) : Int) (0 : Int) l22 l23 l24 l25))))) else none) else (some (PV.tup [(PV.agg [(PV.slice 0 l24), (PV.slice 0 l25)]), (PV.bool true)]))) := (T24.loop [1, 1, 1, 0, 1, 0] 5 _ rfl).trans (by kernel_rfl)
theorem L_bag_Cross_3_eq (l28 : List PV) (l29 : List PV) (l30 : List PV) (l31 : List PV) (i32 : Int) (i33 : Int) (l34 : List PV) (i35 : Int) (i36 : Int) (l37 : List PV) (l38 : List PV) (l39 : List PV) (l40 : List PV) : L_bag_Cross_3 l28 l29 l30 l31 i32 i33 l34 i35 i36 l37 l38 l39 l40 =
  (bif (decide (i36 < i35)) then (bif (decide ((0 : Int) ≤ i36)) then (((l34)[(Int.toNat i36)]?).bind (fun v41 => (c_s3 v41 (fun v42 => (((wc W n_slices_Concat_api_Val_api_Val [(PV.slice 0 [(PV.slice 3 l30), (PV.slice 3 v42)])])).bind (fun v43 => (c_s3 v43 (fun v44 => (bif (true && (decide (((List.length l40) + 1 : Nat) ≤ 4294967296))) then (L_bag_Cross_3 l28 l29 l30 l31 i32 i33 l34 i35 (IntKind.wrap .i64 (i36 + (1 : Int) : Int)) l37 l38 l39 (l40 ++ [(PV.slice 3 v44)])) else none))))))))) else none) else (L_bag_Cross_2 l28 l29 l31 i32 (IntKind.wrap .i64 (i33 + (1 : Int) : Int)) l37 l38 l39 l40)) := (T24.loop [1, 1, 1, 0, 1, 0, 5, 1, 1, 0, 0, 1, 1, 0] 5 _ rfl).trans (by kernel_rfl)
theorem e_bag_Cross (a0_0 : List PV) (a0_1 : List PV) (a1_0 : List PV) (a1_1 : List PV) : wc W n_bag_Cross [(PV.agg [(PV.slice 0 a0_0), (PV.slice 0 a0_1)]), (PV.agg [(PV.slice 0 a1_0), (PV.slice 0 a1_1)])] =
  (((wc W n_slices_Concat_int_int [(PV.slice 0 [(PV.slice 0 a0_0), (PV.slice 0 a1_0)])])).bind (fun v1 => (c_s0 v1 (fun v2 => (((wc W n_bag_May [(PV.agg [(PV.slice 0 a0_0), (PV.slice 0 a0_1)])])).bind (fun v3 => (c_b v3 (fun v4 => (bif (!v4) then (some (PV.tup [(PV.agg [(PV.slice 0 []), (PV.slice 0 [])]), (PV.bool false)])) else (((wc W n_bag_May [(PV.agg [(PV.slice 0 a1_0), (PV.slice 0 a1_1)])])).bind (fun v5 => (c_b v5 (fun v6 => (bif (!v6) then (some (PV.tup [(PV.agg [(PV.slice 0 []), (PV.slice 0 [])]), (PV.bool false)])) else (((wc W n_bag_May [(PV.agg [(PV.slice 0 v2), (PV.slice 0 [])])])).bind (fun v7 => (c_b v7 (fun v8 => (bif (!v8) then (some (PV.tup [(PV.agg [(PV.slice 0 []), (PV.slice 0 [])]), (PV.bool false)])) else (bif (decide (GT.gt (IntKind.wrap .i64 ((((List.length a0_1) : Nat) : Int) * (((List.length a1_1) : Nat) : Int) : Int)) (5000 : Int))) then (some (PV.tup [(PV.agg [(PV.slice 0 []), (PV.slice 0 [])]), (PV.bool false)])) else (J_bag_Cross_1 a0_0 a0_1 a1_0 a1_1 [] [] v2 []))))))))))))))))))))) := go (by kernel_rfl) (by kernel_rfl) T24 (by kernel_rfl)
noncomputable def jF25 : Jn PV := (Classical.choose (exT fi25 (fin cfg fi25))).1
noncomputable def lF25 : Ln PV := (Classical.choose (exT fi25 (fin cfg fi25))).2
theorem T25 : Tied cfg W fi25 (fin cfg fi25) jF25 lF25 := Classical.choose_spec (exT fi25 (fin cfg fi25))
noncomputable def L_bag_May_1 (l1 : List PV) (l2 : List PV) (l3 : List PV) (i4 : Int) (i5 : Int) (b6 : Bool) (b7 : Bool) (b8 : Bool) (b9 : Bool) (b10 : Bool) (b11 : Bool) (b12 : Bool) (b13 : Bool) (b14 : Bool) (b15 : Bool) (b16 : Bool) (b17 : Bool) (b18 : Bool) (b19 : Bool) (b20 : Bool) (b21 : Bool) : Option PV := lF25 [0, 1, 0, 1, 1] 1 (St.mk [(1, (AV.pv (PV.imm 3 (PV.agg [(PV.slice 0 l1), (PV.slice 0 l2)]) 0))), (3, (AV.own 0 0)), (10, (AV.pv (PV.slice 0 l3))), (11, (AV.pv (PV.int .i64 i4))), (12, (AV.pv (PV.int .i64 i5)))] [(Ob.var false 17 (AV.pv (PV.agg [(PV.bool b6), (PV.bool b7), (PV.bool b8), (PV.bool b9), (PV.bool b10), (PV.bool b11), (PV.bool b12), (PV.bool b13), (PV.bool b14), (PV.bool b15), (PV.bool b16), (PV.bool b17), (PV.bool b18), (PV.bool b19), (PV.bool b20), (PV.bool b21)])))])
noncomputable def L_bag_May_2 (l26 : List PV) (l27 : List PV) (l28 : List PV) (i29 : Int) (i30 : Int) (b31 : Bool) (b32 : Bool) (b33 : Bool) (b34 : Bool) (b35 : Bool) (b36 : Bool) (b37 : Bool) (b38 : Bool) (b39 : Bool) (b40 : Bool) (b41 : Bool) (b42 : Bool) (b43 : Bool) (b44 : Bool) (b45 : Bool) (b46 : Bool) : Option PV := lF25 [0, 1, 0, 1, 1, 1, 1] 1 (St.mk [(1, (AV.pv (PV.imm 3 (PV.agg [(PV.slice 0 l26), (PV.slice 0 l27)]) 0))), (6, (AV.pv (PV.fn n_bag_May_1 [] []))), (31, (AV.pv (PV.slice 0 l28))), (32, (AV.pv (PV.int .i64 i29))), (33, (AV.pv (PV.int .i64 i30)))] [(Ob.var false 17 (AV.pv (PV.agg [(PV.bool b31), (PV.bool b32), (PV.bool b33), (PV.bool b34), (PV.bool b35), (PV.bool b36), (PV.bool b37), (PV.bool b38), (PV.bool b39), (PV.bool b40), (PV.bool b41), (PV.bool b42), (PV.bool b43), (PV.bool b44), (PV.bool b45), (PV.bool b46)])))])
theorem L_bag_May_1_eq (l1 : List PV) (l2 : List PV) (l3 : List PV) (i4 : Int) (i5 : Int) (b6 : Bool) (b7 : Bool) (b8 : Bool) (b9 : Bool) (b10 : Bool) (b11 : Bool) (b12 : Bool) (b13 : Bool) (b14 : Bool) (b15 : Bool) (b16 : Bool) (b17 : Bool) (b18 : Bool) (b19 : Bool) (b20 : Bool) (b21 : Bool) : L_bag_May_1 l1 l2 l3 i4 i5 b6 b7 b8 b9 b10 b11 b12 b13 b14 b15 b16 b17 b18 b19 b20 b21 =
  (bif (decide (i5 < i4)) then (bif (decide ((0 : Int) ≤ i5)) then (((l3)[(Int.toNat i5)]?).bind (fun v22 => (c_i64 v22 (fun v23 => (bif (decide (v23 < (0 : Int))) then (some (PV.bool false)) else (bif (decide (GT.gt v23 (15 : Int))) then (some (PV.bool false)) else (bif ((decide ((0 : Int) ≤ v23)) && (decide (v23 < (16 : Int)))) then (((PV.load 17 (PV.agg [(PV.bool b6), (PV.bool b7), (PV.bool b8), (PV.bool b9), (PV.bool b10), (PV.bool b11), (PV.bool b12), (PV.bool b13), (PV.bool b14), (PV.bool b15), (PV.bool b16), (PV.bool b17), (PV.bool b18), (PV.bool b19), (PV.bool b20), (PV.bool b21)]) (0 + ((Int.toNat v23) * 1 : Nat) : Nat) 0)).bind (fun v24 => (c_b v24 (fun v25 => (bif v25 then (some (PV.bool false)) else (bif ((decide ((0 : Int) ≤ v23)) && (decide (v23 < (16 : Int)))) then (bif ((decide (((0 + ((Int.toNat v23) * 1 : Nat) : Nat) + 1 : Nat) ≤ 16)) && true) then (L_bag_May_1 l1 l2 l3 i4 (IntKind.wrap .i64 (i5 + (1 : Int) : Int)) (bif (0 == (0 + ((Int.toNat v23) * 1 : Nat) : Nat)) then true else b6) (bif (1 == (0 + ((Int.toNat v23) * 1 : Nat) : Nat)) then true else b7) (bif (2 == (0 + ((Int.toNat v23) * 1 : Nat) : Nat)) then true else b8) (bif (3 == (0 + ((Int.toNat v23) * 1 : Nat) : Nat)) then true else b9) (bif (4 == (0 + ((Int.toNat v23) * 1 : Nat) : Nat)) then true else b10) (bif (5 == (0 + ((Int.toNat v23) * 1 : Nat) : Nat)) then true else b11) (bif (6 == (0 + ((Int.toNat v23) * 1 : Nat) : Nat)) then true else b12) (bif (7 == (0 + ((Int.toNat v23) * 1 : Nat) : Nat)) then true else b13) (bif (8 == (0 + ((Int.toNat v23) * 1 : Nat) : Nat)) then true else b14) (bif (9 == (0 + ((Int.toNat v23) * 1 : Nat) : Nat)) then true else b15) (bif (10 == (0 + ((Int.toNat v23) * 1 : Nat) : Nat)) then true else b16) (bif (11 == (0 + ((Int.toNat v23) * 1 : Nat) : Nat)) then true else b17) (bif (12 == (0 + ((Int.toNat v23) * 1 : Nat) : Nat)) then true else b18) (bif (13 == (0 + ((Int.toNat v23) * 1 : Nat) : Nat)) then true else b19) (bif (14 == (0 + ((Int.toNat v23) * 1 : Nat) : Nat)) then true else b20) (bif (15 == (0 + ((Int.toNat v23) * 1 : Nat) : Nat)) then true else b21)) else none) else none)))))) else none))))))) else none) else (L_bag_May_2 l1 l2 l2 (((List.length l2) : Nat) : Int) (0 : Int) b6 b7 b8 b9 b10 b11 b12 b13 b14 b15 b16 b17 b18 b19 b20 b21)) := (T25.loop [1, 1, 0, 1, 0] 1 _ rfl).trans (by kernel_rfl)
theorem L_bag_May_2_eq (l26 : List PV) (l27 : List PV) (l28 : List PV) (i29 : Int) (i30 : Int) (b31 : Bool) (b32 : Bool) (b33 : Bool) (b34 : Bool) (b35 : Bool) (b36 : Bool) (b37 : Bool) (b38 : Bool) (b39 : Bool) (b40 : Bool) (b41 : Bool) (b42 : Bool) (b43 : Bool) (b44 : Bool) (b45 : Bool) (b46 : Bool) : L_bag_May_2 l26 l27 l28 i29 i30 b31 b32 b33 b34 b35 b36 b37 b38 b39 b40 b41 b42 b43 b44 b45 b46 =
  (bif (decide (i30 < i29)) then (bif (decide ((0 : Int) ≤ i30)) then (((l28)[(Int.toNat i30)]?).bind (fun v47 => (c_s3 v47 (fun v48 => (bif ((((List.length v48) : Nat) : Int) != (((List.length l26) : Nat) : Int)) then (some (PV.bool false)) else (((wc W n_slices_ContainsFunc_api_Val_api_Val_c5fc [(PV.slice 3 v48), (PV.fn n_bag_May_1 [] [])])).bind (fun v49 => (c_b v49 (fun v50 => (bif v50 then (some (PV.bool false)) else (L_bag_May_2 l26 l27 l28 i29 (IntKind.wrap .i64 (i30 + (1 : Int) : Int)) b31 b32 b33 b34 b35 b36 b37 b38 b39 b40 b41 b42 b43 b44 b45 b46))))))))))) else none) else (some (PV.bool (decide ((((List.length l27) : Nat) : Int) ≤ (5000 : Int)))))) := (T25.loop [1, 1, 1, 1, 0, 1, 0] 1 _ rfl).trans (by kernel_rfl)
theorem e_bag_May (a0_0 : List PV) (a0_1 : List PV) : wc W n_bag_May [(PV.agg [(PV.slice 0 a0_0), (PV.slice 0 a0_1)])] =
  (L_bag_May_1 a0_0 a0_1 a0_0 (((List.length a0_0) : Nat) : Int) (0 : Int) false false false false false false false false false false false false false false false false) := go (by kernel_rfl) (by kernel_rfl) T25 (by kernel_rfl)
noncomputable def jF26 : Jn PV := (Classical.choose (exT fi26 (fin cfg fi26))).1
noncomputable def lF26 : Ln PV := (Classical.choose (exT fi26 (fin cfg fi26))).2
theorem T26 : Tied cfg W fi26 (fin cfg fi26) jF26 lF26 := Classical.choose_spec (exT fi26 (fin cfg fi26))
noncomputable def L_roadbookref03_Row_1 (l1 : List PV) (l2 : List PV) (i3 : Int) : Option PV := lF26 [0, 1, 0, 1, 1] 0 (St.mk [(0, (AV.pv (PV.slice 3 l1))), (1, (AV.pv (PV.slice 3 l2))), (5, (AV.pv (PV.int .i64 i3)))] [])
theorem L_roadbookref03_Row_1_eq (l1 : List PV) (l2 : List PV) (i3 : Int) : L_roadbookref03_Row_1 l1 l2 i3 =
  (bif (decide (i3 < (((List.length l1) : Nat) : Int))) then (bif (decide ((0 : Int) ≤ i3)) then (((l1)[(Int.toNat i3)]?).bind (fun v4 => (c_g_i64_i64 v4 (fun v5 v6 => (bif (decide ((0 : Int) ≤ i3)) then (((l2)[(Int.toNat i3)]?).bind (fun v7 => (c_g_i64_i64 v7 (fun v8 v9 => (((((bif (v5 == v8) then (bif (v6 == v9) then (some true) else (some false)) else (some false))).bind (fun v10 => (some (PV.bool (!v10)))))).bind (fun v11 => (c_b v11 (fun v12 => (bif v12 then (some (PV.bool false)) else (L_roadbookref03_Row_1 l1 l2 (IntKind.wrap .i64 (i3 + (1 : Int) : Int)))))))))))) else none))))) else none) else (some (PV.bool true))) := (T26.loop [1, 1, 0, 1, 0] 0 _ rfl).trans (by kernel_rfl)
theorem e_roadbookref03_Row (a0 : List PV) (a1 : List PV) : wc W n_roadbookref03_Row [(PV.slice 3 a0), (PV.slice 3 a1)] =
  (bif ((((List.length a0) : Nat) : Int) != (((List.length a1) : Nat) : Int)) then (some (PV.bool false)) else (L_roadbookref03_Row_1 a0 a1 (0 : Int))) := go (by kernel_rfl) (by kernel_rfl) T26 (by kernel_rfl)
noncomputable def jF32 : Jn PV := (Classical.choose (exT fi32 (fin cfg fi32))).1
noncomputable def lF32 : Ln PV := (Classical.choose (exT fi32 (fin cfg fi32))).2
theorem T32 : Tied cfg W fi32 (fin cfg fi32) jF32 lF32 := Classical.choose_spec (exT fi32 (fin cfg fi32))
theorem e_roadbooklaw04_Two  : wc W n_roadbooklaw04_Two [] =
  (some (PV.tup [(PV.agg [(PV.slice 3 [(PV.agg [(PV.int .i64 (2 : Int)), (PV.int .i64 (100 : Int))]), (PV.agg [(PV.int .i64 (1 : Int)), (PV.int .i64 (10 : Int))])])]), (PV.agg [(PV.slice 0 [(PV.slice 0 [(PV.slice 3 [(PV.agg [(PV.int .i64 (0 : Int)), (PV.int .i64 (1 : Int))]), (PV.agg [(PV.int .i64 (0 : Int)), (PV.int .i64 (2 : Int))])]), (PV.slice 3 [(PV.agg [(PV.int .i64 (0 : Int)), (PV.int .i64 (3 : Int))]), (PV.agg [(PV.int .i64 (0 : Int)), (PV.int .i64 (4 : Int))])])]), (PV.slice 0 [(PV.slice 3 [(PV.agg [(PV.int .i64 (0 : Int)), (PV.int .i64 (4 : Int))])])])])])])) := go (by kernel_rfl) (by kernel_rfl) T32 (by kernel_rfl)
noncomputable def jF33 : Jn PV := (Classical.choose (exT fi33 (fin cfg fi33))).1
noncomputable def lF33 : Ln PV := (Classical.choose (exT fi33 (fin cfg fi33))).2
theorem T33 : Tied cfg W fi33 (fin cfg fi33) jF33 lF33 := Classical.choose_spec (exT fi33 (fin cfg fi33))
theorem e_data_Fits_1 (a0 : List PV) (c0_0 : List PV) (c1 : Int) : wc W n_data_Fits_1 [(PV.slice 3 a0), (PV.imm 2 (PV.agg [(PV.slice 3 c0_0)]) 0), (PV.imm 0 (PV.int .i64 c1) 0)] =
  (bif (decide ((0 : Int) ≤ c1)) then (((c0_0)[(Int.toNat c1)]?).bind (fun v1 => (((PV.load 3 v1 0 0)).bind (fun v2 => (c_i64 v2 (fun v3 => (((wc W n_data_row [(PV.slice 3 a0), (PV.int .i64 v3)])).bind (fun v4 => (c_b v4 (fun v5 => (some (PV.bool (!v5))))))))))))) else none) := go (by kernel_rfl) (by kernel_rfl) T33 (by kernel_rfl)
noncomputable def jF33o1 : Jn (AV × List Ob) := (Classical.choose (exT fi33 (finO cfg fi33 false 1))).1
noncomputable def lF33o1 : Ln (AV × List Ob) := (Classical.choose (exT fi33 (finO cfg fi33 false 1))).2
theorem T33o1 : Tied cfg W fi33 (finO cfg fi33 false 1) jF33o1 lF33o1 := Classical.choose_spec (exT fi33 (finO cfg fi33 false 1))
theorem o_data_Fits_1_o1_1 (l0 : List PV) (l1 : List PV) (i2 : Int) : W n_data_Fits_1 false [(AV.pv (PV.slice 3 l0)), (AV.pv (PV.imm 2 (PV.agg [(PV.slice 3 l1)]) 0)), (AV.own 0 0)] [(Ob.var false 0 (AV.pv (PV.int .i64 i2)))] =
  (bif (decide ((0 : Int) ≤ i2)) then (((l1)[(Int.toNat i2)]?).bind (fun v1 => (((PV.load 3 v1 0 0)).bind (fun v2 => (c_i64 v2 (fun v3 => (((wc W n_data_row [(PV.slice 3 l0), (PV.int .i64 v3)])).bind (fun v4 => (c_b v4 (fun v5 => (some ((AV.pv (PV.bool (!v5))), [(Ob.var false 0 (AV.pv (PV.int .i64 i2)))])))))))))))) else none) := goO (by kernel_rfl) (by kernel_rfl) T33o1 rfl (by kernel_rfl)
noncomputable def jF34 : Jn PV := (Classical.choose (exT fi34 (fin cfg fi34))).1
noncomputable def lF34 : Ln PV := (Classical.choose (exT fi34 (fin cfg fi34))).2
theorem T34 : Tied cfg W fi34 (fin cfg fi34) jF34 lF34 := Classical.choose_spec (exT fi34 (fin cfg fi34))
theorem e_data_row (a0 : List PV) (a1 : Int) : wc W n_data_row [(PV.slice 3 a0), (PV.int .i64 a1)] =
  (bif ((((List.length a0) : Nat) : Int) == a1) then (((wc W n_slices_ContainsFunc_api_Val_api_Val_c5fc [(PV.slice 3 a0), (PV.fn n_data_row_1 [] [])])).bind (fun v1 => (c_b v1 (fun v2 => (some (PV.bool (!v2))))))) else (some (PV.bool false))) := go (by kernel_rfl) (by kernel_rfl) T34 (by kernel_rfl)
noncomputable def jF35 : Jn PV := (Classical.choose (exT fi35 (fin cfg fi35))).1
noncomputable def lF35 : Ln PV := (Classical.choose (exT fi35 (fin cfg fi35))).2
theorem T35 : Tied cfg W fi35 (fin cfg fi35) jF35 lF35 := Classical.choose_spec (exT fi35 (fin cfg fi35))
theorem e_slices_ContainsFunc_api_Val_api_Val_3020 (a0 : List PV) (a1 : PV) : wc W n_slices_ContainsFunc_api_Val_api_Val_3020 [(PV.slice 0 a0), a1] =
  (((wc W n_slices_IndexFunc_api_Val_api_Val_fa1b [(PV.slice 0 a0), a1])).bind (fun v1 => (c_i64 v1 (fun v2 => (some (PV.bool (decide (GE.ge v2 (0 : Int))))))))) := go (by kernel_rfl) (by kernel_rfl) T35 (by kernel_rfl)
noncomputable def jF35o1 : Jn (AV × List Ob) := (Classical.choose (exT fi35 (finO cfg fi35 false 1))).1
noncomputable def lF35o1 : Ln (AV × List Ob) := (Classical.choose (exT fi35 (finO cfg fi35 false 1))).2
theorem T35o1 : Tied cfg W fi35 (finO cfg fi35 false 1) jF35o1 lF35o1 := Classical.choose_spec (exT fi35 (finO cfg fi35 false 1))
theorem o_slices_ContainsFunc_api_Val_api_Val_3020_o1_1 (l0 : List PV) (l1 : List PV) (i2 : Int) : W n_slices_ContainsFunc_api_Val_api_Val_3020 false [(AV.pv (PV.slice 0 l0)), (AV.fnv n_data_Fits_1 [] [(AV.pv (PV.imm 2 (PV.agg [(PV.slice 3 l1)]) 0)), (AV.own 0 0)])] [(Ob.var false 0 (AV.pv (PV.int .i64 i2)))] =
  (((W n_slices_IndexFunc_api_Val_api_Val_fa1b false [(AV.pv (PV.slice 0 l0)), (AV.fnv n_data_Fits_1 [] [(AV.pv (PV.imm 2 (PV.agg [(PV.slice 3 l1)]) 0)), (AV.own 0 0)])] [(Ob.var false 0 (AV.pv (PV.int .i64 i2)))])).bind (fun v4 => (k_5b106d v4 (fun v5 v6 => (c_i64 v5 (fun v7 => (some ((AV.pv (PV.bool (decide (GE.ge v7 (0 : Int))))), [(Ob.var false 0 (AV.pv (PV.int .i64 v6)))])))))))) := goO (by kernel_rfl) (by kernel_rfl) T35o1 rfl (by kernel_rfl)
noncomputable def jF36 : Jn PV := (Classical.choose (exT fi36 (fin cfg fi36))).1
noncomputable def lF36 : Ln PV := (Classical.choose (exT fi36 (fin cfg fi36))).2
theorem T36 : Tied cfg W fi36 (fin cfg fi36) jF36 lF36 := Classical.choose_spec (exT fi36 (fin cfg fi36))
theorem e_data_in (a0 : Int) (a1 : Int) (a2 : Int) : wc W n_data_in [(PV.int .i64 a0), (PV.int .i64 a1), (PV.int .i64 a2)] =
  (bif (decide (GE.ge a0 a1)) then (some (PV.bool (decide (a0 ≤ a2)))) else (some (PV.bool false))) := go (by kernel_rfl) (by kernel_rfl) T36 (by kernel_rfl)
noncomputable def jF37 : Jn PV := (Classical.choose (exT fi37 (fin cfg fi37))).1
noncomputable def lF37 : Ln PV := (Classical.choose (exT fi37 (fin cfg fi37))).2
theorem T37 : Tied cfg W fi37 (fin cfg fi37) jF37 lF37 := Classical.choose_spec (exT fi37 (fin cfg fi37))
theorem e_slices_ContainsFunc_api_Def_api_Def (a0 : List PV) (a1 : PV) : wc W n_slices_ContainsFunc_api_Def_api_Def [(PV.slice 3 a0), a1] =
  (((wc W n_slices_IndexFunc_api_Def_api_Def [(PV.slice 3 a0), a1])).bind (fun v1 => (c_i64 v1 (fun v2 => (some (PV.bool (decide (GE.ge v2 (0 : Int))))))))) := go (by kernel_rfl) (by kernel_rfl) T37 (by kernel_rfl)
noncomputable def jF38 : Jn PV := (Classical.choose (exT fi38 (fin cfg fi38))).1
noncomputable def lF38 : Ln PV := (Classical.choose (exT fi38 (fin cfg fi38))).2
theorem T38 : Tied cfg W fi38 (fin cfg fi38) jF38 lF38 := Classical.choose_spec (exT fi38 (fin cfg fi38))
theorem e_data_May_1 (a0_0 : Int) (a0_1 : Int) : wc W n_data_May_1 [(PV.agg [(PV.int .i64 a0_0), (PV.int .i64 a0_1)])] =
  (((wc W n_data_one [(PV.agg [(PV.int .i64 a0_0), (PV.int .i64 a0_1)])])).bind (fun v1 => (c_b v1 (fun v2 => (some (PV.bool (!v2))))))) := go (by kernel_rfl) (by kernel_rfl) T38 (by kernel_rfl)
noncomputable def jF39 : Jn PV := (Classical.choose (exT fi39 (fin cfg fi39))).1
noncomputable def lF39 : Ln PV := (Classical.choose (exT fi39 (fin cfg fi39))).2
theorem T39 : Tied cfg W fi39 (fin cfg fi39) jF39 lF39 := Classical.choose_spec (exT fi39 (fin cfg fi39))
theorem e_data_one (a0_0 : Int) (a0_1 : Int) : wc W n_data_one [(PV.agg [(PV.int .i64 a0_0), (PV.int .i64 a0_1)])] =
  (((((bif (a0_0 == (0 : Int)) then (bif (a0_1 == (0 : Int)) then (some true) else (some false)) else (some false))).bind (fun v1 => (some (PV.bool (!v1)))))).bind (fun v2 => (c_b v2 (fun v3 => (bif v3 then (((wc W n_data_in [(PV.int .i64 a0_0), (PV.int .i64 (1 : Int)), (PV.int .i64 (4 : Int))])).bind (fun v4 => (c_b v4 (fun v5 => (bif v5 then (((wc W n_data_in [(PV.int .i64 a0_1), (PV.int .i64 (1 : Int)), (PV.int .i64 (1000000 : Int))])).bind (fun v6 => (c_b v6 (fun v7 => (some (PV.bool v7)))))) else (some (PV.bool false))))))) else (some (PV.bool false))))))) := go (by kernel_rfl) (by kernel_rfl) T39 (by kernel_rfl)
noncomputable def jF40 : Jn PV := (Classical.choose (exT fi40 (fin cfg fi40))).1
noncomputable def lF40 : Ln PV := (Classical.choose (exT fi40 (fin cfg fi40))).2
theorem T40 : Tied cfg W fi40 (fin cfg fi40) jF40 lF40 := Classical.choose_spec (exT fi40 (fin cfg fi40))
theorem e_bag_Keep (a0_0 : List PV) (a0_1 : List PV) (a1 : List PV) : wc W n_bag_Keep [(PV.agg [(PV.slice 0 a0_0), (PV.slice 0 a0_1)]), (PV.slice 6 a1)] =
  (((wc W n_bag_some [(PV.agg [(PV.slice 0 a0_0), (PV.slice 0 a0_1)]), (PV.fn n_bag_Keep_1 [] [(PV.imm 0 (PV.slice 6 a1) 0), (PV.imm 3 (PV.agg [(PV.slice 0 a0_0), (PV.slice 0 a0_1)]) 0)])])).bind (fun v1 => (c_g_s0_s0 v1 (fun v2 v3 => (some (PV.agg [(PV.slice 0 v2), (PV.slice 0 v3)])))))) := go (by kernel_rfl) (by kernel_rfl) T40 (by kernel_rfl)
noncomputable def jF42 : Jn PV := (Classical.choose (exT fi42 (fin cfg fi42))).1
noncomputable def lF42 : Ln PV := (Classical.choose (exT fi42 (fin cfg fi42))).2
theorem T42 : Tied cfg W fi42 (fin cfg fi42) jF42 lF42 := Classical.choose_spec (exT fi42 (fin cfg fi42))
noncomputable def L_roadbookref02_Ints_1 (l1 : List PV) (l2 : List PV) (i3 : Int) : Option PV := lF42 [0, 1, 0, 1, 1] 0 (St.mk [(0, (AV.pv (PV.slice 0 l1))), (1, (AV.pv (PV.slice 0 l2))), (5, (AV.pv (PV.int .i64 i3)))] [])
theorem L_roadbookref02_Ints_1_eq (l1 : List PV) (l2 : List PV) (i3 : Int) : L_roadbookref02_Ints_1 l1 l2 i3 =
  (bif (decide (i3 < (((List.length l1) : Nat) : Int))) then (bif (decide ((0 : Int) ≤ i3)) then (((l1)[(Int.toNat i3)]?).bind (fun v4 => (c_i64 v4 (fun v5 => (bif (decide ((0 : Int) ≤ i3)) then (((l2)[(Int.toNat i3)]?).bind (fun v6 => (c_i64 v6 (fun v7 => (bif (v5 != v7) then (some (PV.bool false)) else (L_roadbookref02_Ints_1 l1 l2 (IntKind.wrap .i64 (i3 + (1 : Int) : Int)))))))) else none))))) else none) else (some (PV.bool true))) := (T42.loop [1, 1, 0, 1, 0] 0 _ rfl).trans (by kernel_rfl)
theorem e_roadbookref02_Ints (a0 : List PV) (a1 : List PV) : wc W n_roadbookref02_Ints [(PV.slice 0 a0), (PV.slice 0 a1)] =
  (bif ((((List.length a0) : Nat) : Int) != (((List.length a1) : Nat) : Int)) then (some (PV.bool false)) else (L_roadbookref02_Ints_1 a0 a1 (0 : Int))) := go (by kernel_rfl) (by kernel_rfl) T42 (by kernel_rfl)
noncomputable def jF43 : Jn PV := (Classical.choose (exT fi43 (fin cfg fi43))).1
noncomputable def lF43 : Ln PV := (Classical.choose (exT fi43 (fin cfg fi43))).2
theorem T43 : Tied cfg W fi43 (fin cfg fi43) jF43 lF43 := Classical.choose_spec (exT fi43 (fin cfg fi43))
theorem e_roadbookref01_May (a0_0 : Int) (a0_1 : Int) : wc W n_roadbookref01_May [(PV.agg [(PV.int .i64 a0_0), (PV.int .i64 a0_1)])] =
  (bif (a0_0 == (0 : Int)) then (some (PV.bool true)) else (bif (a0_0 == (1 : Int)) then (some (PV.bool (a0_1 == (0 : Int)))) else (bif (a0_0 == (2 : Int)) then (some (PV.bool (a0_1 == (0 : Int)))) else (some (PV.bool false))))) := go (by kernel_rfl) (by kernel_rfl) T43 (by kernel_rfl)
noncomputable def jF44 : Jn PV := (Classical.choose (exT fi44 (fin cfg fi44))).1
noncomputable def lF44 : Ln PV := (Classical.choose (exT fi44 (fin cfg fi44))).2
theorem T44 : Tied cfg W fi44 (fin cfg fi44) jF44 lF44 := Classical.choose_spec (exT fi44 (fin cfg fi44))
noncomputable def L_slices_Concat_int_int_1 (l1 : List PV) (i2 : Int) (l3 : List PV) (i4 : Int) (i5 : Int) : Option PV := lF44 [0, 1, 0, 1, 1] 0 (St.mk [(0, (AV.pv (PV.slice 0 l1))), (3, (AV.pv (PV.int .i64 i2))), (9, (AV.pv (PV.slice 0 l3))), (10, (AV.pv (PV.int .i64 i4))), (11, (AV.pv (PV.int .i64 i5)))] [])
noncomputable def L_slices_Concat_int_int_2 (l11 : List PV) (i12 : Int) (i13 : Int) (l14 : List PV) : Option PV := lF44 [0, 1, 0, 1, 1, 1, 1] 1 (St.mk [(6, (AV.view 0 0 none)), (25, (AV.pv (PV.slice 0 l11))), (26, (AV.pv (PV.int .i64 i12))), (27, (AV.pv (PV.int .i64 i13)))] [(Ob.row false 0 0 l14)])
theorem L_slices_Concat_int_int_1_eq (l1 : List PV) (i2 : Int) (l3 : List PV) (i4 : Int) (i5 : Int) : L_slices_Concat_int_int_1 l1 i2 l3 i4 i5 =
  (bif (decide (i5 < i4)) then (bif (decide ((0 : Int) ≤ i5)) then (((l3)[(Int.toNat i5)]?).bind (fun v6 => (c_s0 v6 (fun v7 => (bif (decide ((IntKind.wrap .i64 (i2 + (((List.length v7) : Nat) : Int) : Int)) < (0 : Int))) then none else (L_slices_Concat_int_int_1 l1 (IntKind.wrap .i64 (i2 + (((List.length v7) : Nat) : Int) : Int)) l3 i4 (IntKind.wrap .i64 (i5 + (1 : Int) : Int)))))))) else none) else (((W n_slices_Grow_int_int true [(AV.nil 0), (AV.pv (PV.int .i64 i2))] [])).bind (fun v9 => (k_d697de v9 (fun v10 => (L_slices_Concat_int_int_2 l1 (((List.length l1) : Nat) : Int) (0 : Int) v10)))))) := (T44.loop [1, 1, 0, 1, 0] 0 _ rfl).trans (by kernel_rfl)
theorem L_slices_Concat_int_int_2_eq (l11 : List PV) (i12 : Int) (i13 : Int) (l14 : List PV) : L_slices_Concat_int_int_2 l11 i12 i13 l14 =
  (bif (decide (i13 < i12)) then (bif (decide ((0 : Int) ≤ i13)) then (((l11)[(Int.toNat i13)]?).bind (fun v15 => (c_s0 v15 (fun v16 => (bif (true && (decide (((List.length l14) + (List.length v16) : Nat) ≤ 4294967296))) then (L_slices_Concat_int_int_2 l11 i12 (IntKind.wrap .i64 (i13 + (1 : Int) : Int)) (l14 ++ v16)) else none))))) else none) else (some (PV.slice 0 l14))) := (T44.loop [1, 1, 1, 1, 0, 1, 0] 1 _ rfl).trans (by kernel_rfl)
theorem e_slices_Concat_int_int (a0 : List PV) : wc W n_slices_Concat_int_int [(PV.slice 0 a0)] =
  (L_slices_Concat_int_int_1 a0 (0 : Int) a0 (((List.length a0) : Nat) : Int) (0 : Int)) := go (by kernel_rfl) (by kernel_rfl) T44 (by kernel_rfl)
noncomputable def jF45 : Jn PV := (Classical.choose (exT fi45 (fin cfg fi45))).1
noncomputable def lF45 : Ln PV := (Classical.choose (exT fi45 (fin cfg fi45))).2
theorem T45 : Tied cfg W fi45 (fin cfg fi45) jF45 lF45 := Classical.choose_spec (exT fi45 (fin cfg fi45))
noncomputable def L_slices_Concat_api_Val_api_Val_1 (l1 : List PV) (i2 : Int) (l3 : List PV) (i4 : Int) (i5 : Int) : Option PV := lF45 [0, 1, 0, 1, 1] 0 (St.mk [(0, (AV.pv (PV.slice 0 l1))), (3, (AV.pv (PV.int .i64 i2))), (9, (AV.pv (PV.slice 0 l3))), (10, (AV.pv (PV.int .i64 i4))), (11, (AV.pv (PV.int .i64 i5)))] [])
noncomputable def L_slices_Concat_api_Val_api_Val_2 (l11 : List PV) (i12 : Int) (i13 : Int) (l14 : List PV) : Option PV := lF45 [0, 1, 0, 1, 1, 1, 1] 1 (St.mk [(6, (AV.view 0 0 none)), (25, (AV.pv (PV.slice 0 l11))), (26, (AV.pv (PV.int .i64 i12))), (27, (AV.pv (PV.int .i64 i13)))] [(Ob.row false 0 3 l14)])
theorem L_slices_Concat_api_Val_api_Val_1_eq (l1 : List PV) (i2 : Int) (l3 : List PV) (i4 : Int) (i5 : Int) : L_slices_Concat_api_Val_api_Val_1 l1 i2 l3 i4 i5 =
  (bif (decide (i5 < i4)) then (bif (decide ((0 : Int) ≤ i5)) then (((l3)[(Int.toNat i5)]?).bind (fun v6 => (c_s3 v6 (fun v7 => (bif (decide ((IntKind.wrap .i64 (i2 + (((List.length v7) : Nat) : Int) : Int)) < (0 : Int))) then none else (L_slices_Concat_api_Val_api_Val_1 l1 (IntKind.wrap .i64 (i2 + (((List.length v7) : Nat) : Int) : Int)) l3 i4 (IntKind.wrap .i64 (i5 + (1 : Int) : Int)))))))) else none) else (((W n_slices_Grow_api_Val_api_Val true [(AV.nil 3), (AV.pv (PV.int .i64 i2))] [])).bind (fun v9 => (k_83ed81 v9 (fun v10 => (L_slices_Concat_api_Val_api_Val_2 l1 (((List.length l1) : Nat) : Int) (0 : Int) v10)))))) := (T45.loop [1, 1, 0, 1, 0] 0 _ rfl).trans (by kernel_rfl)
theorem L_slices_Concat_api_Val_api_Val_2_eq (l11 : List PV) (i12 : Int) (i13 : Int) (l14 : List PV) : L_slices_Concat_api_Val_api_Val_2 l11 i12 i13 l14 =
  (bif (decide (i13 < i12)) then (bif (decide ((0 : Int) ≤ i13)) then (((l11)[(Int.toNat i13)]?).bind (fun v15 => (c_s3 v15 (fun v16 => (bif (true && (decide (((List.length l14) + (List.length v16) : Nat) ≤ 4294967296))) then (L_slices_Concat_api_Val_api_Val_2 l11 i12 (IntKind.wrap .i64 (i13 + (1 : Int) : Int)) (l14 ++ v16)) else none))))) else none) else (some (PV.slice 3 l14))) := (T45.loop [1, 1, 1, 1, 0, 1, 0] 1 _ rfl).trans (by kernel_rfl)
theorem e_slices_Concat_api_Val_api_Val (a0 : List PV) : wc W n_slices_Concat_api_Val_api_Val [(PV.slice 0 a0)] =
  (L_slices_Concat_api_Val_api_Val_1 a0 (0 : Int) a0 (((List.length a0) : Nat) : Int) (0 : Int)) := go (by kernel_rfl) (by kernel_rfl) T45 (by kernel_rfl)
noncomputable def jF46 : Jn PV := (Classical.choose (exT fi46 (fin cfg fi46))).1
noncomputable def lF46 : Ln PV := (Classical.choose (exT fi46 (fin cfg fi46))).2
theorem T46 : Tied cfg W fi46 (fin cfg fi46) jF46 lF46 := Classical.choose_spec (exT fi46 (fin cfg fi46))
theorem e_bag_May_1 (a0_0 : Int) (a0_1 : Int) : wc W n_bag_May_1 [(PV.agg [(PV.int .i64 a0_0), (PV.int .i64 a0_1)])] =
  (((wc W n_val_May [(PV.agg [(PV.int .i64 a0_0), (PV.int .i64 a0_1)])])).bind (fun v1 => (c_b v1 (fun v2 => (some (PV.bool (!v2))))))) := go (by kernel_rfl) (by kernel_rfl) T46 (by kernel_rfl)
noncomputable def jF47 : Jn PV := (Classical.choose (exT fi47 (fin cfg fi47))).1
noncomputable def lF47 : Ln PV := (Classical.choose (exT fi47 (fin cfg fi47))).2
theorem T47 : Tied cfg W fi47 (fin cfg fi47) jF47 lF47 := Classical.choose_spec (exT fi47 (fin cfg fi47))
theorem e_val_May (a0_0 : Int) (a0_1 : Int) : wc W n_val_May [(PV.agg [(PV.int .i64 a0_0), (PV.int .i64 a0_1)])] =
  (bif (decide (GE.ge a0_0 (0 : Int))) then (bif (decide (a0_0 < (3 : Int))) then (bif (a0_0 == (0 : Int)) then (some (PV.bool true)) else (some (PV.bool (a0_1 == (0 : Int))))) else (some (PV.bool false))) else (some (PV.bool false))) := go (by kernel_rfl) (by kernel_rfl) T47 (by kernel_rfl)
noncomputable def jF48 : Jn PV := (Classical.choose (exT fi48 (fin cfg fi48))).1
noncomputable def lF48 : Ln PV := (Classical.choose (exT fi48 (fin cfg fi48))).2
theorem T48 : Tied cfg W fi48 (fin cfg fi48) jF48 lF48 := Classical.choose_spec (exT fi48 (fin cfg fi48))
theorem e_slices_ContainsFunc_api_Val_api_Val_c5fc (a0 : List PV) (a1 : PV) : wc W n_slices_ContainsFunc_api_Val_api_Val_c5fc [(PV.slice 3 a0), a1] =
  (((wc W n_slices_IndexFunc_api_Val_api_Val_b1f6 [(PV.slice 3 a0), a1])).bind (fun v1 => (c_i64 v1 (fun v2 => (some (PV.bool (decide (GE.ge v2 (0 : Int))))))))) := go (by kernel_rfl) (by kernel_rfl) T48 (by kernel_rfl)
noncomputable def jF50 : Jn PV := (Classical.choose (exT fi50 (fin cfg fi50))).1
noncomputable def lF50 : Ln PV := (Classical.choose (exT fi50 (fin cfg fi50))).2
theorem T50 : Tied cfg W fi50 (fin cfg fi50) jF50 lF50 := Classical.choose_spec (exT fi50 (fin cfg fi50))
noncomputable def L_slices_Index_int_int_1 (l1 : List PV) (i2 : Int) (i3 : Int) (i4 : Int) : Option PV := lF50 [0, 1, 0, 1] 0 (St.mk [(0, (AV.pv (PV.slice 0 l1))), (1, (AV.pv (PV.int .i64 i2))), (7, (AV.pv (PV.int .i64 i3))), (8, (AV.pv (PV.int .i64 i4)))] [])
theorem L_slices_Index_int_int_1_eq (l1 : List PV) (i2 : Int) (i3 : Int) (i4 : Int) : L_slices_Index_int_int_1 l1 i2 i3 i4 =
  (bif (decide (i4 < i3)) then (bif (decide ((0 : Int) ≤ i4)) then (((l1)[(Int.toNat i4)]?).bind (fun v5 => (c_i64 v5 (fun v6 => (bif (i2 == v6) then (some (PV.int .i64 i4)) else (L_slices_Index_int_int_1 l1 i2 i3 (IntKind.wrap .i64 (i4 + (1 : Int) : Int)))))))) else none) else (some (PV.int .i64 (-1 : Int)))) := (T50.loop [1, 0, 1, 0] 0 _ rfl).trans (by kernel_rfl)
theorem e_slices_Index_int_int (a0 : List PV) (a1 : Int) : wc W n_slices_Index_int_int [(PV.slice 0 a0), (PV.int .i64 a1)] =
  (L_slices_Index_int_int_1 a0 a1 (((List.length a0) : Nat) : Int) (0 : Int)) := go (by kernel_rfl) (by kernel_rfl) T50 (by kernel_rfl)
noncomputable def jF57 : Jn PV := (Classical.choose (exT fi57 (fin cfg fi57))).1
noncomputable def lF57 : Ln PV := (Classical.choose (exT fi57 (fin cfg fi57))).2
theorem T57 : Tied cfg W fi57 (fin cfg fi57) jF57 lF57 := Classical.choose_spec (exT fi57 (fin cfg fi57))
theorem e_val_Of (a0 : Int) : wc W n_val_Of [(PV.int .i64 a0)] =
  (some (PV.agg [(PV.int .i64 (0 : Int)), (PV.int .i64 a0)])) := go (by kernel_rfl) (by kernel_rfl) T57 (by kernel_rfl)
noncomputable def jF59 : Jn PV := (Classical.choose (exT fi59 (fin cfg fi59))).1
noncomputable def lF59 : Ln PV := (Classical.choose (exT fi59 (fin cfg fi59))).2
theorem T59 : Tied cfg W fi59 (fin cfg fi59) jF59 lF59 := Classical.choose_spec (exT fi59 (fin cfg fi59))
noncomputable def L_bag_some_1 (p3 : PV) (l4 : List PV) (i5 : Int) (i6 : Int) (l7 : List PV) (l8 : List PV) (l9 : List PV) (l10 : List PV) : Option PV := lF59 [0, 1, 0, 1, 1] 5 (St.mk [(1, (AV.pv p3)), (4, (AV.own 0 0)), (5, (AV.own 3 0)), (13, (AV.pv (PV.slice 0 l4))), (14, (AV.pv (PV.int .i64 i5))), (15, (AV.pv (PV.int .i64 i6)))] [(Ob.var false 3 (AV.agg [(AV.nil 0), (AV.nil 0)])), (Ob.row false 0 0 l7), (Ob.row false 0 0 l8), (Ob.var false 3 (AV.agg [(AV.pv (PV.slice 0 l9)), (AV.view 4 0 none)])), (Ob.row false 0 0 l10)])
theorem L_bag_some_1_eq (p3 : PV) (l4 : List PV) (i5 : Int) (i6 : Int) (l7 : List PV) (l8 : List PV) (l9 : List PV) (l10 : List PV) : L_bag_some_1 p3 l4 i5 i6 l7 l8 l9 l10 =
  (bif (decide (i6 < i5)) then (bif (decide ((0 : Int) ≤ i6)) then (((l4)[(Int.toNat i6)]?).bind (fun v11 => (c_s3 v11 (fun v12 => (((PV.asFn p3)).bind (fun v13 => (((wc W (Prod.fst v13) (((Prod.fst (Prod.snd v13)) ++ [(PV.slice 3 v12)]) ++ (Prod.snd (Prod.snd v13))))).bind (fun v14 => (c_b v14 (fun v15 => (bif v15 then (((wc W n_slices_Clone_api_Val_api_Val [(PV.slice 3 v12)])).bind (fun v16 => (c_s3 v16 (fun v17 => (bif (true && (decide (((List.length l10) + 1 : Nat) ≤ 4294967296))) then (L_bag_some_1 p3 l4 i5 (IntKind.wrap .i64 (i6 + (1 : Int) : Int)) l7 l8 l9 (l10 ++ [(PV.slice 3 v17)])) else none))))) else (L_bag_some_1 p3 l4 i5 (IntKind.wrap .i64 (i6 + (1 : Int) : Int)) l7 l8 l9 l10)))))))))))) else none) else (some (PV.agg [(PV.slice 0 l9), (PV.slice 0 l10)]))) := (T59.loop [1, 1, 0, 1, 0] 5 _ rfl).trans (by kernel_rfl)
theorem e_bag_some (a0_0 : List PV) (a0_1 : List PV) (a1 : PV) : wc W n_bag_some [(PV.agg [(PV.slice 0 a0_0), (PV.slice 0 a0_1)]), a1] =
  (((wc W n_slices_Clone_int_int [(PV.slice 0 a0_0)])).bind (fun v1 => (c_s0 v1 (fun v2 => (L_bag_some_1 a1 a0_1 (((List.length a0_1) : Nat) : Int) (0 : Int) [] [] v2 []))))) := go (by kernel_rfl) (by kernel_rfl) T59 (by kernel_rfl)
noncomputable def jF65 : Jn PV := (Classical.choose (exT fi65 (fin cfg fi65))).1
noncomputable def lF65 : Ln PV := (Classical.choose (exT fi65 (fin cfg fi65))).2
theorem T65 : Tied cfg W fi65 (fin cfg fi65) jF65 lF65 := Classical.choose_spec (exT fi65 (fin cfg fi65))
theorem e_data_row_1 (a0_0 : Int) (a0_1 : Int) : wc W n_data_row_1 [(PV.agg [(PV.int .i64 a0_0), (PV.int .i64 a0_1)])] =
  (((wc W n_val_May [(PV.agg [(PV.int .i64 a0_0), (PV.int .i64 a0_1)])])).bind (fun v1 => (c_b v1 (fun v2 => (some (PV.bool (!v2))))))) := go (by kernel_rfl) (by kernel_rfl) T65 (by kernel_rfl)
noncomputable def jF66 : Jn PV := (Classical.choose (exT fi66 (fin cfg fi66))).1
noncomputable def lF66 : Ln PV := (Classical.choose (exT fi66 (fin cfg fi66))).2
theorem T66 : Tied cfg W fi66 (fin cfg fi66) jF66 lF66 := Classical.choose_spec (exT fi66 (fin cfg fi66))
noncomputable def L_slices_IndexFunc_api_Val_api_Val_fa1b_1 (l1 : List PV) (p2 : PV) (i3 : Int) (i4 : Int) : Option PV := lF66 [0, 1, 0, 1] 0 (St.mk [(0, (AV.pv (PV.slice 0 l1))), (1, (AV.pv p2)), (7, (AV.pv (PV.int .i64 i3))), (8, (AV.pv (PV.int .i64 i4)))] [])
theorem L_slices_IndexFunc_api_Val_api_Val_fa1b_1_eq (l1 : List PV) (p2 : PV) (i3 : Int) (i4 : Int) : L_slices_IndexFunc_api_Val_api_Val_fa1b_1 l1 p2 i3 i4 =
  (bif (decide (i4 < i3)) then (bif (decide ((0 : Int) ≤ i4)) then (((l1)[(Int.toNat i4)]?).bind (fun v5 => (c_s3 v5 (fun v6 => (((PV.asFn p2)).bind (fun v7 => (((wc W (Prod.fst v7) (((Prod.fst (Prod.snd v7)) ++ [(PV.slice 3 v6)]) ++ (Prod.snd (Prod.snd v7))))).bind (fun v8 => (c_b v8 (fun v9 => (bif v9 then (some (PV.int .i64 i4)) else (L_slices_IndexFunc_api_Val_api_Val_fa1b_1 l1 p2 i3 (IntKind.wrap .i64 (i4 + (1 : Int) : Int)))))))))))))) else none) else (some (PV.int .i64 (-1 : Int)))) := (T66.loop [1, 0, 1, 0] 0 _ rfl).trans (by kernel_rfl)
theorem e_slices_IndexFunc_api_Val_api_Val_fa1b (a0 : List PV) (a1 : PV) : wc W n_slices_IndexFunc_api_Val_api_Val_fa1b [(PV.slice 0 a0), a1] =
  (L_slices_IndexFunc_api_Val_api_Val_fa1b_1 a0 a1 (((List.length a0) : Nat) : Int) (0 : Int)) := go (by kernel_rfl) (by kernel_rfl) T66 (by kernel_rfl)
noncomputable def jF66o1 : Jn (AV × List Ob) := (Classical.choose (exT fi66 (finO cfg fi66 false 1))).1
noncomputable def lF66o1 : Ln (AV × List Ob) := (Classical.choose (exT fi66 (finO cfg fi66 false 1))).2
theorem T66o1 : Tied cfg W fi66 (finO cfg fi66 false 1) jF66o1 lF66o1 := Classical.choose_spec (exT fi66 (finO cfg fi66 false 1))
noncomputable def L_slices_IndexFunc_api_Val_api_Val_fa1b_o1_1 (l1 : List PV) (l2 : List PV) (i3 : Int) (i4 : Int) (i5 : Int) : Option (AV × List Ob) := lF66o1 [0, 1, 0, 1] 1 (St.mk [(0, (AV.pv (PV.slice 0 l1))), (1, (AV.fnv n_data_Fits_1 [] [(AV.pv (PV.imm 2 (PV.agg [(PV.slice 3 l2)]) 0)), (AV.own 0 0)])), (7, (AV.pv (PV.int .i64 i3))), (8, (AV.pv (PV.int .i64 i4)))] [(Ob.var false 0 (AV.pv (PV.int .i64 i5)))])
theorem L_slices_IndexFunc_api_Val_api_Val_fa1b_o1_1_eq (l1 : List PV) (l2 : List PV) (i3 : Int) (i4 : Int) (i5 : Int) : L_slices_IndexFunc_api_Val_api_Val_fa1b_o1_1 l1 l2 i3 i4 i5 =
  (bif (decide (i4 < i3)) then (bif (decide ((0 : Int) ≤ i4)) then (((l1)[(Int.toNat i4)]?).bind (fun v6 => (c_s3 v6 (fun v7 => (((W n_data_Fits_1 false [(AV.pv (PV.slice 3 v7)), (AV.pv (PV.imm 2 (PV.agg [(PV.slice 3 l2)]) 0)), (AV.own 0 0)] [(Ob.var false 0 (AV.pv (PV.int .i64 i5)))])).bind (fun v11 => (k_5b106d v11 (fun v12 v13 => (c_b v12 (fun v14 => (bif v14 then (some ((AV.pv (PV.int .i64 i4)), [(Ob.var false 0 (AV.pv (PV.int .i64 v13)))])) else (L_slices_IndexFunc_api_Val_api_Val_fa1b_o1_1 l1 l2 i3 (IntKind.wrap .i64 (i4 + (1 : Int) : Int)) v13)))))))))))) else none) else (some ((AV.pv (PV.int .i64 (-1 : Int))), [(Ob.var false 0 (AV.pv (PV.int .i64 i5)))]))) := (T66o1.loop [1, 0, 1, 0] 1 _ rfl).trans (by kernel_rfl)
theorem o_slices_IndexFunc_api_Val_api_Val_fa1b_o1_1 (l0 : List PV) (l1 : List PV) (i2 : Int) : W n_slices_IndexFunc_api_Val_api_Val_fa1b false [(AV.pv (PV.slice 0 l0)), (AV.fnv n_data_Fits_1 [] [(AV.pv (PV.imm 2 (PV.agg [(PV.slice 3 l1)]) 0)), (AV.own 0 0)])] [(Ob.var false 0 (AV.pv (PV.int .i64 i2)))] =
  (L_slices_IndexFunc_api_Val_api_Val_fa1b_o1_1 l0 l1 (((List.length l0) : Nat) : Int) (0 : Int) i2) := goO (by kernel_rfl) (by kernel_rfl) T66o1 rfl (by kernel_rfl)
noncomputable def jF67 : Jn PV := (Classical.choose (exT fi67 (fin cfg fi67))).1
noncomputable def lF67 : Ln PV := (Classical.choose (exT fi67 (fin cfg fi67))).2
theorem T67 : Tied cfg W fi67 (fin cfg fi67) jF67 lF67 := Classical.choose_spec (exT fi67 (fin cfg fi67))
noncomputable def L_slices_IndexFunc_api_Def_api_Def_1 (l1 : List PV) (p2 : PV) (i3 : Int) (i4 : Int) : Option PV := lF67 [0, 1, 0, 1] 0 (St.mk [(0, (AV.pv (PV.slice 3 l1))), (1, (AV.pv p2)), (7, (AV.pv (PV.int .i64 i3))), (8, (AV.pv (PV.int .i64 i4)))] [])
theorem L_slices_IndexFunc_api_Def_api_Def_1_eq (l1 : List PV) (p2 : PV) (i3 : Int) (i4 : Int) : L_slices_IndexFunc_api_Def_api_Def_1 l1 p2 i3 i4 =
  (bif (decide (i4 < i3)) then (bif (decide ((0 : Int) ≤ i4)) then (((l1)[(Int.toNat i4)]?).bind (fun v5 => (c_g_i64_i64 v5 (fun v6 v7 => (((PV.asFn p2)).bind (fun v8 => (((wc W (Prod.fst v8) (((Prod.fst (Prod.snd v8)) ++ [(PV.agg [(PV.int .i64 v6), (PV.int .i64 v7)])]) ++ (Prod.snd (Prod.snd v8))))).bind (fun v9 => (c_b v9 (fun v10 => (bif v10 then (some (PV.int .i64 i4)) else (L_slices_IndexFunc_api_Def_api_Def_1 l1 p2 i3 (IntKind.wrap .i64 (i4 + (1 : Int) : Int)))))))))))))) else none) else (some (PV.int .i64 (-1 : Int)))) := (T67.loop [1, 0, 1, 0] 0 _ rfl).trans (by kernel_rfl)
theorem e_slices_IndexFunc_api_Def_api_Def (a0 : List PV) (a1 : PV) : wc W n_slices_IndexFunc_api_Def_api_Def [(PV.slice 3 a0), a1] =
  (L_slices_IndexFunc_api_Def_api_Def_1 a0 a1 (((List.length a0) : Nat) : Int) (0 : Int)) := go (by kernel_rfl) (by kernel_rfl) T67 (by kernel_rfl)
noncomputable def jF68 : Jn PV := (Classical.choose (exT fi68 (fin cfg fi68))).1
noncomputable def lF68 : Ln PV := (Classical.choose (exT fi68 (fin cfg fi68))).2
theorem T68 : Tied cfg W fi68 (fin cfg fi68) jF68 lF68 := Classical.choose_spec (exT fi68 (fin cfg fi68))
theorem e_bag_Keep_1 (a0 : List PV) (c0 : List PV) (c1_0 : List PV) (c1_1 : List PV) : wc W n_bag_Keep_1 [(PV.slice 3 a0), (PV.imm 0 (PV.slice 6 c0) 0), (PV.imm 3 (PV.agg [(PV.slice 0 c1_0), (PV.slice 0 c1_1)]) 0)] =
  (((wc W n_slices_ContainsFunc_api_Expr_api_Expr [(PV.slice 6 c0), (PV.fn n_bag_Keep_1_1 [] [(PV.imm 3 (PV.agg [(PV.slice 0 c1_0), (PV.slice 0 c1_1)]) 0), (PV.imm 0 (PV.slice 3 a0) 0)])])).bind (fun v1 => (c_b v1 (fun v2 => (some (PV.bool (!v2))))))) := go (by kernel_rfl) (by kernel_rfl) T68 (by kernel_rfl)
noncomputable def jF69 : Jn PV := (Classical.choose (exT fi69 (fin cfg fi69))).1
noncomputable def lF69 : Ln PV := (Classical.choose (exT fi69 (fin cfg fi69))).2
theorem T69 : Tied cfg W fi69 (fin cfg fi69) jF69 lF69 := Classical.choose_spec (exT fi69 (fin cfg fi69))
theorem e_slices_ContainsFunc_api_Expr_api_Expr (a0 : List PV) (a1 : PV) : wc W n_slices_ContainsFunc_api_Expr_api_Expr [(PV.slice 6 a0), a1] =
  (((wc W n_slices_IndexFunc_api_Expr_api_Expr [(PV.slice 6 a0), a1])).bind (fun v1 => (c_i64 v1 (fun v2 => (some (PV.bool (decide (GE.ge v2 (0 : Int))))))))) := go (by kernel_rfl) (by kernel_rfl) T69 (by kernel_rfl)
noncomputable def jF70 : Jn PV := (Classical.choose (exT fi70 (fin cfg fi70))).1
noncomputable def lF70 : Ln PV := (Classical.choose (exT fi70 (fin cfg fi70))).2
theorem T70 : Tied cfg W fi70 (fin cfg fi70) jF70 lF70 := Classical.choose_spec (exT fi70 (fin cfg fi70))
theorem e_bag_Keep_1_1 (a0_0 : Int) (a0_1 : Int) (a0_2 : Int) (a0_3 : Int) (a0_4 : List PV) (c0_0 : List PV) (c0_1 : List PV) (c1 : List PV) : wc W n_bag_Keep_1_1 [(PV.agg [(PV.int .i64 a0_0), (PV.int .i64 a0_1), (PV.int .i64 a0_2), (PV.int .i64 a0_3), (PV.slice 6 a0_4)]), (PV.imm 3 (PV.agg [(PV.slice 0 c0_0), (PV.slice 0 c0_1)]) 0), (PV.imm 0 (PV.slice 3 c1) 0)] =
  (((wc W n_expr_Keeps [(PV.agg [(PV.int .i64 a0_0), (PV.int .i64 a0_1), (PV.int .i64 a0_2), (PV.int .i64 a0_3), (PV.slice 6 a0_4)]), (PV.slice 0 c0_0), (PV.slice 3 c1)])).bind (fun v1 => (c_b v1 (fun v2 => (some (PV.bool (!v2))))))) := go (by kernel_rfl) (by kernel_rfl) T70 (by kernel_rfl)
noncomputable def jF71 : Jn PV := (Classical.choose (exT fi71 (fin cfg fi71))).1
noncomputable def lF71 : Ln PV := (Classical.choose (exT fi71 (fin cfg fi71))).2
theorem T71 : Tied cfg W fi71 (fin cfg fi71) jF71 lF71 := Classical.choose_spec (exT fi71 (fin cfg fi71))
theorem e_expr_Keeps (a0_0 : Int) (a0_1 : Int) (a0_2 : Int) (a0_3 : Int) (a0_4 : List PV) (a1 : List PV) (a2 : List PV) : wc W n_expr_Keeps [(PV.agg [(PV.int .i64 a0_0), (PV.int .i64 a0_1), (PV.int .i64 a0_2), (PV.int .i64 a0_3), (PV.slice 6 a0_4)]), (PV.slice 0 a1), (PV.slice 3 a2)] =
  (((wc W n_expr_Eval [(PV.agg [(PV.int .i64 a0_0), (PV.int .i64 a0_1), (PV.int .i64 a0_2), (PV.int .i64 a0_3), (PV.slice 6 a0_4)]), (PV.slice 0 a1), (PV.slice 3 a2)])).bind (fun v1 => (c_g_i64_i64 v1 (fun v2 v3 => (((wc W n_val_True [(PV.agg [(PV.int .i64 v2), (PV.int .i64 v3)])])).bind (fun v4 => (c_b v4 (fun v5 => (some (PV.bool v5)))))))))) := go (by kernel_rfl) (by kernel_rfl) T71 (by kernel_rfl)
end Go.Cf

namespace Go.Cf
open Go Go.Ab
set_option linter.unusedVariables false
set_option maxRecDepth 100000
noncomputable def jF72 : Jn PV := (Classical.choose (exT fi72 (fin cfg fi72))).1
noncomputable def lF72 : Ln PV := (Classical.choose (exT fi72 (fin cfg fi72))).2
theorem T72 : Tied cfg W fi72 (fin cfg fi72) jF72 lF72 := Classical.choose_spec (exT fi72 (fin cfg fi72))
noncomputable def J_slices_Grow_int_int_1 (l1 : List PV) (i2 : Int) (l3 : List PV) : Option PV := jF72 [1, 1] (St.mk [(0, (AV.pv (PV.slice 0 l1))), (1, (AV.pv (PV.int .i64 i2)))] [(Ob.row false 0 0 l3)])
theorem J_slices_Grow_int_int_1_eq (l1 : List PV) (i2 : Int) (l3 : List PV) : J_slices_Grow_int_int_1 l1 i2 l3 =
  none := (T72.join [1, 1] _).trans (by kernel_rfl)
theorem e_slices_Grow_int_int (a0 : List PV) (a1 : Int) : wc W n_slices_Grow_int_int [(PV.slice 0 a0), (PV.int .i64 a1)] =
  (bif (decide (a1 < (0 : Int))) then none else (J_slices_Grow_int_int_1 a0 a1 [])) := go (by kernel_rfl) (by kernel_rfl) T72 (by kernel_rfl)
noncomputable def jF72r0 : Jn (AV × List Ob) := (Classical.choose (exT fi72 (finO cfg fi72 true 0))).1
noncomputable def lF72r0 : Ln (AV × List Ob) := (Classical.choose (exT fi72 (finO cfg fi72 true 0))).2
theorem T72r0 : Tied cfg W fi72 (finO cfg fi72 true 0) jF72r0 lF72r0 := Classical.choose_spec (exT fi72 (finO cfg fi72 true 0))
noncomputable def J_slices_Grow_int_int_r0_1 (i1 : Int) (l2 : List PV) : Option (AV × List Ob) := jF72r0 [1, 1] (St.mk [(0, (AV.nil 0)), (1, (AV.pv (PV.int .i64 i1)))] [(Ob.row false 0 0 l2)])
theorem J_slices_Grow_int_int_r0_1_eq (i1 : Int) (l2 : List PV) : J_slices_Grow_int_int_r0_1 i1 l2 =
  (bif (decide (GT.gt (IntKind.wrap .i64 (i1 - (0 : Int) : Int)) (0 : Int))) then (bif ((((decide ((0 : Int) < (IntKind.wrap .i64 (i1 - (0 : Int) : Int)))) && (decide ((IntKind.wrap .i64 (i1 - (0 : Int) : Int)) ≤ (4294967296 : Int)))) && true) && true) then (some ((AV.view 0 0 none), [(Ob.row false 0 0 [])])) else none) else (some ((AV.view 0 0 none), [(Ob.row false 0 0 [])]))) := (T72r0.join [1, 1] _).trans (by kernel_rfl)
theorem o_slices_Grow_int_int_r0_1 (i0 : Int) : W n_slices_Grow_int_int true [(AV.nil 0), (AV.pv (PV.int .i64 i0))] [] =
  (bif (decide (i0 < (0 : Int))) then none else (J_slices_Grow_int_int_r0_1 i0 [])) := goO (by kernel_rfl) (by kernel_rfl) T72r0 rfl (by kernel_rfl)
noncomputable def jF73 : Jn PV := (Classical.choose (exT fi73 (fin cfg fi73))).1
noncomputable def lF73 : Ln PV := (Classical.choose (exT fi73 (fin cfg fi73))).2
theorem T73 : Tied cfg W fi73 (fin cfg fi73) jF73 lF73 := Classical.choose_spec (exT fi73 (fin cfg fi73))
noncomputable def J_slices_Grow_api_Val_api_Val_1 (l1 : List PV) (i2 : Int) (l3 : List PV) : Option PV := jF73 [1, 1] (St.mk [(0, (AV.pv (PV.slice 3 l1))), (1, (AV.pv (PV.int .i64 i2)))] [(Ob.row false 0 3 l3)])
theorem J_slices_Grow_api_Val_api_Val_1_eq (l1 : List PV) (i2 : Int) (l3 : List PV) : J_slices_Grow_api_Val_api_Val_1 l1 i2 l3 =
  none := (T73.join [1, 1] _).trans (by kernel_rfl)
theorem e_slices_Grow_api_Val_api_Val (a0 : List PV) (a1 : Int) : wc W n_slices_Grow_api_Val_api_Val [(PV.slice 3 a0), (PV.int .i64 a1)] =
  (bif (decide (a1 < (0 : Int))) then none else (J_slices_Grow_api_Val_api_Val_1 a0 a1 [])) := go (by kernel_rfl) (by kernel_rfl) T73 (by kernel_rfl)
noncomputable def jF73r0 : Jn (AV × List Ob) := (Classical.choose (exT fi73 (finO cfg fi73 true 0))).1
noncomputable def lF73r0 : Ln (AV × List Ob) := (Classical.choose (exT fi73 (finO cfg fi73 true 0))).2
theorem T73r0 : Tied cfg W fi73 (finO cfg fi73 true 0) jF73r0 lF73r0 := Classical.choose_spec (exT fi73 (finO cfg fi73 true 0))
noncomputable def J_slices_Grow_api_Val_api_Val_r0_1 (i1 : Int) (l2 : List PV) : Option (AV × List Ob) := jF73r0 [1, 1] (St.mk [(0, (AV.nil 3)), (1, (AV.pv (PV.int .i64 i1)))] [(Ob.row false 0 3 l2)])
theorem J_slices_Grow_api_Val_api_Val_r0_1_eq (i1 : Int) (l2 : List PV) : J_slices_Grow_api_Val_api_Val_r0_1 i1 l2 =
  (bif (decide (GT.gt (IntKind.wrap .i64 (i1 - (0 : Int) : Int)) (0 : Int))) then (bif ((((decide ((0 : Int) < (IntKind.wrap .i64 (i1 - (0 : Int) : Int)))) && (decide ((IntKind.wrap .i64 (i1 - (0 : Int) : Int)) ≤ (4294967296 : Int)))) && true) && true) then (some ((AV.view 0 0 none), [(Ob.row false 0 3 [])])) else none) else (some ((AV.view 0 0 none), [(Ob.row false 0 3 [])]))) := (T73r0.join [1, 1] _).trans (by kernel_rfl)
theorem o_slices_Grow_api_Val_api_Val_r0_1 (i0 : Int) : W n_slices_Grow_api_Val_api_Val true [(AV.nil 3), (AV.pv (PV.int .i64 i0))] [] =
  (bif (decide (i0 < (0 : Int))) then none else (J_slices_Grow_api_Val_api_Val_r0_1 i0 [])) := goO (by kernel_rfl) (by kernel_rfl) T73r0 rfl (by kernel_rfl)
noncomputable def jF74 : Jn PV := (Classical.choose (exT fi74 (fin cfg fi74))).1
noncomputable def lF74 : Ln PV := (Classical.choose (exT fi74 (fin cfg fi74))).2
theorem T74 : Tied cfg W fi74 (fin cfg fi74) jF74 lF74 := Classical.choose_spec (exT fi74 (fin cfg fi74))
noncomputable def L_slices_IndexFunc_api_Val_api_Val_b1f6_1 (l1 : List PV) (p2 : PV) (i3 : Int) (i4 : Int) : Option PV := lF74 [0, 1, 0, 1] 0 (St.mk [(0, (AV.pv (PV.slice 3 l1))), (1, (AV.pv p2)), (7, (AV.pv (PV.int .i64 i3))), (8, (AV.pv (PV.int .i64 i4)))] [])
theorem L_slices_IndexFunc_api_Val_api_Val_b1f6_1_eq (l1 : List PV) (p2 : PV) (i3 : Int) (i4 : Int) : L_slices_IndexFunc_api_Val_api_Val_b1f6_1 l1 p2 i3 i4 =
  (bif (decide (i4 < i3)) then (bif (decide ((0 : Int) ≤ i4)) then (((l1)[(Int.toNat i4)]?).bind (fun v5 => (c_g_i64_i64 v5 (fun v6 v7 => (((PV.asFn p2)).bind (fun v8 => (((wc W (Prod.fst v8) (((Prod.fst (Prod.snd v8)) ++ [(PV.agg [(PV.int .i64 v6), (PV.int .i64 v7)])]) ++ (Prod.snd (Prod.snd v8))))).bind (fun v9 => (c_b v9 (fun v10 => (bif v10 then (some (PV.int .i64 i4)) else (L_slices_IndexFunc_api_Val_api_Val_b1f6_1 l1 p2 i3 (IntKind.wrap .i64 (i4 + (1 : Int) : Int)))))))))))))) else none) else (some (PV.int .i64 (-1 : Int)))) := (T74.loop [1, 0, 1, 0] 0 _ rfl).trans (by kernel_rfl)
theorem e_slices_IndexFunc_api_Val_api_Val_b1f6 (a0 : List PV) (a1 : PV) : wc W n_slices_IndexFunc_api_Val_api_Val_b1f6 [(PV.slice 3 a0), a1] =
  (L_slices_IndexFunc_api_Val_api_Val_b1f6_1 a0 a1 (((List.length a0) : Nat) : Int) (0 : Int)) := go (by kernel_rfl) (by kernel_rfl) T74 (by kernel_rfl)
noncomputable def jF79 : Jn PV := (Classical.choose (exT fi79 (fin cfg fi79))).1
noncomputable def lF79 : Ln PV := (Classical.choose (exT fi79 (fin cfg fi79))).2
theorem T79 : Tied cfg W fi79 (fin cfg fi79) jF79 lF79 := Classical.choose_spec (exT fi79 (fin cfg fi79))
theorem e_val_some_api_Val (a0 : List PV) (a1 : PV) : wc W n_val_some_api_Val [(PV.slice 3 a0), a1] =
  (((wc W n_slices_ContainsFunc_api_Val_api_Val_c5fc [(PV.slice 3 a0), a1])).bind (fun v1 => (c_b v1 (fun v2 => (some (PV.bool v2)))))) := go (by kernel_rfl) (by kernel_rfl) T79 (by kernel_rfl)
noncomputable def jF80 : Jn PV := (Classical.choose (exT fi80 (fin cfg fi80))).1
noncomputable def lF80 : Ln PV := (Classical.choose (exT fi80 (fin cfg fi80))).2
theorem T80 : Tied cfg W fi80 (fin cfg fi80) jF80 lF80 := Classical.choose_spec (exT fi80 (fin cfg fi80))
theorem e_val_kind (a0 : Int) : wc W n_val_kind [(PV.int .i64 a0)] =
  (some (PV.fn n_val_kind_1 [] [(PV.imm 0 (PV.int .i64 a0) 0)])) := go (by kernel_rfl) (by kernel_rfl) T80 (by kernel_rfl)
noncomputable def jF81 : Jn PV := (Classical.choose (exT fi81 (fin cfg fi81))).1
noncomputable def lF81 : Ln PV := (Classical.choose (exT fi81 (fin cfg fi81))).2
theorem T81 : Tied cfg W fi81 (fin cfg fi81) jF81 lF81 := Classical.choose_spec (exT fi81 (fin cfg fi81))
theorem e_val_bad  : wc W n_val_bad [] =
  (some (PV.agg [(PV.int .i64 (2 : Int)), (PV.int .i64 (0 : Int))])) := go (by kernel_rfl) (by kernel_rfl) T81 (by kernel_rfl)
noncomputable def jF83 : Jn PV := (Classical.choose (exT fi83 (fin cfg fi83))).1
noncomputable def lF83 : Ln PV := (Classical.choose (exT fi83 (fin cfg fi83))).2
theorem T83 : Tied cfg W fi83 (fin cfg fi83) jF83 lF83 := Classical.choose_spec (exT fi83 (fin cfg fi83))
theorem e_val_null  : wc W n_val_null [] =
  (some (PV.agg [(PV.int .i64 (1 : Int)), (PV.int .i64 (0 : Int))])) := go (by kernel_rfl) (by kernel_rfl) T83 (by kernel_rfl)
noncomputable def jF87 : Jn PV := (Classical.choose (exT fi87 (fin cfg fi87))).1
noncomputable def lF87 : Ln PV := (Classical.choose (exT fi87 (fin cfg fi87))).2
theorem T87 : Tied cfg W fi87 (fin cfg fi87) jF87 lF87 := Classical.choose_spec (exT fi87 (fin cfg fi87))
noncomputable def L_slices_IndexFunc_api_Expr_api_Expr_1 (l1 : List PV) (p2 : PV) (i3 : Int) (i4 : Int) : Option PV := lF87 [0, 1, 0, 1] 0 (St.mk [(0, (AV.pv (PV.slice 6 l1))), (1, (AV.pv p2)), (7, (AV.pv (PV.int .i64 i3))), (8, (AV.pv (PV.int .i64 i4)))] [])
theorem L_slices_IndexFunc_api_Expr_api_Expr_1_eq (l1 : List PV) (p2 : PV) (i3 : Int) (i4 : Int) : L_slices_IndexFunc_api_Expr_api_Expr_1 l1 p2 i3 i4 =
  (bif (decide (i4 < i3)) then (bif (decide ((0 : Int) ≤ i4)) then (((l1)[(Int.toNat i4)]?).bind (fun v5 => (c_g_i64_i64_i64_i64_s6 v5 (fun v6 v7 v8 v9 v10 => (((PV.asFn p2)).bind (fun v11 => (((wc W (Prod.fst v11) (((Prod.fst (Prod.snd v11)) ++ [(PV.agg [(PV.int .i64 v6), (PV.int .i64 v7), (PV.int .i64 v8), (PV.int .i64 v9), (PV.slice 6 v10)])]) ++ (Prod.snd (Prod.snd v11))))).bind (fun v12 => (c_b v12 (fun v13 => (bif v13 then (some (PV.int .i64 i4)) else (L_slices_IndexFunc_api_Expr_api_Expr_1 l1 p2 i3 (IntKind.wrap .i64 (i4 + (1 : Int) : Int)))))))))))))) else none) else (some (PV.int .i64 (-1 : Int)))) := (T87.loop [1, 0, 1, 0] 0 _ rfl).trans (by kernel_rfl)
theorem e_slices_IndexFunc_api_Expr_api_Expr (a0 : List PV) (a1 : PV) : wc W n_slices_IndexFunc_api_Expr_api_Expr [(PV.slice 6 a0), a1] =
  (L_slices_IndexFunc_api_Expr_api_Expr_1 a0 a1 (((List.length a0) : Nat) : Int) (0 : Int)) := go (by kernel_rfl) (by kernel_rfl) T87 (by kernel_rfl)
noncomputable def jF88 : Jn PV := (Classical.choose (exT fi88 (fin cfg fi88))).1
noncomputable def lF88 : Ln PV := (Classical.choose (exT fi88 (fin cfg fi88))).2
theorem T88 : Tied cfg W fi88 (fin cfg fi88) jF88 lF88 := Classical.choose_spec (exT fi88 (fin cfg fi88))
theorem e_val_True (a0_0 : Int) (a0_1 : Int) : wc W n_val_True [(PV.agg [(PV.int .i64 a0_0), (PV.int .i64 a0_1)])] =
  (bif (a0_0 == (0 : Int)) then (some (PV.bool (a0_1 != (0 : Int)))) else (some (PV.bool false))) := go (by kernel_rfl) (by kernel_rfl) T88 (by kernel_rfl)
noncomputable def jF89 : Jn PV := (Classical.choose (exT fi89 (fin cfg fi89))).1
noncomputable def lF89 : Ln PV := (Classical.choose (exT fi89 (fin cfg fi89))).2
theorem T89 : Tied cfg W fi89 (fin cfg fi89) jF89 lF89 := Classical.choose_spec (exT fi89 (fin cfg fi89))
theorem e_expr_Eval (a0_0 : Int) (a0_1 : Int) (a0_2 : Int) (a0_3 : Int) (a0_4 : List PV) (a1 : List PV) (a2 : List PV) : wc W n_expr_Eval [(PV.agg [(PV.int .i64 a0_0), (PV.int .i64 a0_1), (PV.int .i64 a0_2), (PV.int .i64 a0_3), (PV.slice 6 a0_4)]), (PV.slice 0 a1), (PV.slice 3 a2)] =
  (((wc W n_expr_May [(PV.agg [(PV.int .i64 a0_0), (PV.int .i64 a0_1), (PV.int .i64 a0_2), (PV.int .i64 a0_3), (PV.slice 6 a0_4)])])).bind (fun v1 => (c_b v1 (fun v2 => (bif (!v2) then (some (PV.agg [(PV.int .i64 (2 : Int)), (PV.int .i64 (0 : Int))])) else (((wc W n_expr_eval [(PV.agg [(PV.int .i64 a0_0), (PV.int .i64 a0_1), (PV.int .i64 a0_2), (PV.int .i64 a0_3), (PV.slice 6 a0_4)]), (PV.slice 0 a1), (PV.slice 3 a2)])).bind (fun v3 => (c_g_i64_i64 v3 (fun v4 v5 => (some (PV.agg [(PV.int .i64 v4), (PV.int .i64 v5)]))))))))))) := go (by kernel_rfl) (by kernel_rfl) T89 (by kernel_rfl)
noncomputable def jF101 : Jn PV := (Classical.choose (exT fi101 (fin cfg fi101))).1
noncomputable def lF101 : Ln PV := (Classical.choose (exT fi101 (fin cfg fi101))).2
theorem T101 : Tied cfg W fi101 (fin cfg fi101) jF101 lF101 := Classical.choose_spec (exT fi101 (fin cfg fi101))
theorem e_val_kind_1 (a0_0 : Int) (a0_1 : Int) (c0 : Int) : wc W n_val_kind_1 [(PV.agg [(PV.int .i64 a0_0), (PV.int .i64 a0_1)]), (PV.imm 0 (PV.int .i64 c0) 0)] =
  (((wc W n_val_fine [(PV.agg [(PV.int .i64 a0_0), (PV.int .i64 a0_1)])])).bind (fun v1 => (c_g_i64_i64 v1 (fun v2 v3 => (some (PV.bool (v2 == c0))))))) := go (by kernel_rfl) (by kernel_rfl) T101 (by kernel_rfl)
noncomputable def jF102 : Jn PV := (Classical.choose (exT fi102 (fin cfg fi102))).1
noncomputable def lF102 : Ln PV := (Classical.choose (exT fi102 (fin cfg fi102))).2
theorem T102 : Tied cfg W fi102 (fin cfg fi102) jF102 lF102 := Classical.choose_spec (exT fi102 (fin cfg fi102))
theorem e_val_fine (a0_0 : Int) (a0_1 : Int) : wc W n_val_fine [(PV.agg [(PV.int .i64 a0_0), (PV.int .i64 a0_1)])] =
  (((wc W n_val_May [(PV.agg [(PV.int .i64 a0_0), (PV.int .i64 a0_1)])])).bind (fun v1 => (c_b v1 (fun v2 => (bif (!v2) then (((wc W n_val_bad [])).bind (fun v3 => (c_g_i64_i64 v3 (fun v4 v5 => (some (PV.agg [(PV.int .i64 v4), (PV.int .i64 v5)])))))) else (some (PV.agg [(PV.int .i64 a0_0), (PV.int .i64 a0_1)]))))))) := go (by kernel_rfl) (by kernel_rfl) T102 (by kernel_rfl)
noncomputable def jF105 : Jn PV := (Classical.choose (exT fi105 (fin cfg fi105))).1
noncomputable def lF105 : Ln PV := (Classical.choose (exT fi105 (fin cfg fi105))).2
theorem T105 : Tied cfg W fi105 (fin cfg fi105) jF105 lF105 := Classical.choose_spec (exT fi105 (fin cfg fi105))
theorem e_expr_May (a0_0 : Int) (a0_1 : Int) (a0_2 : Int) (a0_3 : Int) (a0_4 : List PV) : wc W n_expr_May [(PV.agg [(PV.int .i64 a0_0), (PV.int .i64 a0_1), (PV.int .i64 a0_2), (PV.int .i64 a0_3), (PV.slice 6 a0_4)])] =
  (((W n_expr_each false [(AV.pv (PV.agg [(PV.int .i64 a0_0), (PV.int .i64 a0_1), (PV.int .i64 a0_2), (PV.int .i64 a0_3), (PV.slice 6 a0_4)])), (AV.pv (PV.int .i64 (1 : Int))), (AV.fnv n_expr_May_1 [] [(AV.own 0 0)])] [(Ob.var false 0 (AV.pv (PV.int .i64 (0 : Int))))])).bind (fun v8 => (k_5b106d v8 (fun v9 v10 => (c_b v9 (fun v11 => (some (PV.bool v11)))))))) := go (by kernel_rfl) (by kernel_rfl) T105 (by kernel_rfl)
noncomputable def jF106 : Jn PV := (Classical.choose (exT fi106 (fin cfg fi106))).1
noncomputable def lF106 : Ln PV := (Classical.choose (exT fi106 (fin cfg fi106))).2
theorem T106 : Tied cfg W fi106 (fin cfg fi106) jF106 lF106 := Classical.choose_spec (exT fi106 (fin cfg fi106))
noncomputable def J_expr_eval_1 (l3 : List PV) (i4 : Int) (i5 : Int) (i6 : Int) : Option PV := jF106 [1, 1, 0, 1, 1, 1, 0, 1, 0, 1] (St.mk [(2, (AV.pv (PV.slice 3 l3))), (6, (AV.own 0 0)), (7, (AV.pv (PV.int .i64 i4)))] [(Ob.var false 3 (AV.pv (PV.agg [(PV.int .i64 i5), (PV.int .i64 i6)])))])
noncomputable def L_expr_eval_2 (l7 : List PV) (l8 : List PV) (i9 : Int) (i10 : Int) (i11 : Int) (i12 : Int) (l13 : List PV) (l14 : List PV) (i15 : Int) (i16 : Int) (i17 : Int) (i18 : Int) (l19 : List PV) : Option PV := lF106 [0, 1, 0, 1, 1, 1] 2 (St.mk [(1, (AV.pv (PV.slice 0 l7))), (2, (AV.pv (PV.slice 3 l8))), (3, (AV.pv (PV.imm 6 (PV.agg [(PV.int .i64 i9), (PV.int .i64 i10), (PV.int .i64 i11), (PV.int .i64 i12), (PV.slice 6 l13)]) 0))), (6, (AV.own 0 0)), (8, (AV.view 1 0 none)), (37, (AV.pv (PV.slice 6 l14))), (38, (AV.pv (PV.int .i64 i15))), (39, (AV.pv (PV.int .i64 i16)))] [(Ob.var false 3 (AV.pv (PV.agg [(PV.int .i64 i17), (PV.int .i64 i18)]))), (Ob.row false 0 3 l19)])
theorem J_expr_eval_1_eq (l3 : List PV) (i4 : Int) (i5 : Int) (i6 : Int) : J_expr_eval_1 l3 i4 i5 i6 =
  (bif (decide ((0 : Int) ≤ i4)) then (((l3)[(Int.toNat i4)]?).bind (fun v20 => (c_g_i64_i64 v20 (fun v21 v22 => (some (PV.agg [(PV.int .i64 v21), (PV.int .i64 v22)])))))) else none) := (T106.join [1, 0, 1, 0, 1, 1, 1, 0, 1, 1] _).trans (by kernel_rfl)
theorem L_expr_eval_2_eq (l7 : List PV) (l8 : List PV) (i9 : Int) (i10 : Int) (i11 : Int) (i12 : Int) (l13 : List PV) (l14 : List PV) (i15 : Int) (i16 : Int) (i17 : Int) (i18 : Int) (l19 : List PV) : L_expr_eval_2 l7 l8 i9 i10 i11 i12 l13 l14 i15 i16 i17 i18 l19 =
  (bif (decide (i16 < i15)) then (bif (decide ((0 : Int) ≤ i16)) then (((l14)[(Int.toNat i16)]?).bind (fun v23 => (c_g_i64_i64_i64_i64_s6 v23 (fun v24 v25 v26 v27 v28 => (((wc W n_expr_eval [(PV.agg [(PV.int .i64 v24), (PV.int .i64 v25), (PV.int .i64 v26), (PV.int .i64 v27), (PV.slice 6 v28)]), (PV.slice 0 l7), (PV.slice 3 l8)])).bind (fun v29 => (c_g_i64_i64 v29 (fun v30 v31 => (bif (true && (decide (((List.length l19) + 1 : Nat) ≤ 4294967296))) then (L_expr_eval_2 l7 l8 i9 i10 i11 i12 l13 l14 i15 (IntKind.wrap .i64 (i16 + (1 : Int) : Int)) i17 i18 (l19 ++ [(PV.agg [(PV.int .i64 v30), (PV.int .i64 v31)])])) else none))))))))) else none) else (((wc W n_expr_ways [(PV.int .i64 i9)])).bind (fun v32 => (c_g_i64_i64_p v32 (fun v33 v34 v35 => (((PV.asFn v35)).bind (fun v36 => (((wc W (Prod.fst v36) (((Prod.fst (Prod.snd v36)) ++ [(PV.slice 3 l19)]) ++ (Prod.snd (Prod.snd v36))))).bind (fun v37 => (c_g_i64_i64 v37 (fun v38 v39 => (some (PV.agg [(PV.int .i64 v38), (PV.int .i64 v39)]))))))))))))) := (T106.loop [1, 1, 1, 0, 1, 0] 2 _ rfl).trans (by kernel_rfl)
theorem e_expr_eval (a0_0 : Int) (a0_1 : Int) (a0_2 : Int) (a0_3 : Int) (a0_4 : List PV) (a1 : List PV) (a2 : List PV) : wc W n_expr_eval [(PV.agg [(PV.int .i64 a0_0), (PV.int .i64 a0_1), (PV.int .i64 a0_2), (PV.int .i64 a0_3), (PV.slice 6 a0_4)]), (PV.slice 0 a1), (PV.slice 3 a2)] =
  (bif (a0_0 == (0 : Int)) then (some (PV.agg [(PV.int .i64 a0_2), (PV.int .i64 a0_3)])) else (bif (a0_0 == (1 : Int)) then (((wc W n_slices_Index_int_int [(PV.slice 0 a1), (PV.int .i64 a0_1)])).bind (fun v1 => (c_i64 v1 (fun v2 => (bif (decide (v2 < (0 : Int))) then (some (PV.agg [(PV.int .i64 (2 : Int)), (PV.int .i64 (0 : Int))])) else (bif (decide (GE.ge v2 (((List.length a2) : Nat) : Int))) then (some (PV.agg [(PV.int .i64 (2 : Int)), (PV.int .i64 (0 : Int))])) else (J_expr_eval_1 a2 v2 (0 : Int) (0 : Int)))))))) else (L_expr_eval_2 a1 a2 a0_0 a0_1 a0_2 a0_3 a0_4 a0_4 (((List.length a0_4) : Nat) : Int) (0 : Int) (0 : Int) (0 : Int) []))) := go (by kernel_rfl) (by kernel_rfl) T106 (by kernel_rfl)
noncomputable def jF114 : Jn PV := (Classical.choose (exT fi114 (fin cfg fi114))).1
noncomputable def lF114 : Ln PV := (Classical.choose (exT fi114 (fin cfg fi114))).2
theorem T114 : Tied cfg W fi114 (fin cfg fi114) jF114 lF114 := Classical.choose_spec (exT fi114 (fin cfg fi114))
noncomputable def L_expr_each_1 (i4 : Int) (p5 : PV) (l6 : List PV) (i7 : Int) (i8 : Int) : Option PV := lF114 [0, 1, 0, 1, 1] 0 (St.mk [(1, (AV.pv (PV.int .i64 i4))), (2, (AV.pv p5)), (15, (AV.pv (PV.slice 6 l6))), (16, (AV.pv (PV.int .i64 i7))), (17, (AV.pv (PV.int .i64 i8)))] [])
theorem L_expr_each_1_eq (i4 : Int) (p5 : PV) (l6 : List PV) (i7 : Int) (i8 : Int) : L_expr_each_1 i4 p5 l6 i7 i8 =
  (bif (decide (i8 < i7)) then (bif (decide ((0 : Int) ≤ i8)) then (((l6)[(Int.toNat i8)]?).bind (fun v9 => (c_g_i64_i64_i64_i64_s6 v9 (fun v10 v11 v12 v13 v14 => (((wc W n_expr_each [(PV.agg [(PV.int .i64 v10), (PV.int .i64 v11), (PV.int .i64 v12), (PV.int .i64 v13), (PV.slice 6 v14)]), (PV.int .i64 (IntKind.wrap .i64 (i4 + (1 : Int) : Int))), p5])).bind (fun v15 => (c_b v15 (fun v16 => (bif (!v16) then (some (PV.bool false)) else (L_expr_each_1 i4 p5 l6 i7 (IntKind.wrap .i64 (i8 + (1 : Int) : Int)))))))))))) else none) else (some (PV.bool true))) := (T114.loop [1, 1, 0, 1, 0] 0 _ rfl).trans (by kernel_rfl)
theorem e_expr_each (a0_0 : Int) (a0_1 : Int) (a0_2 : Int) (a0_3 : Int) (a0_4 : List PV) (a1 : Int) (a2 : PV) : wc W n_expr_each [(PV.agg [(PV.int .i64 a0_0), (PV.int .i64 a0_1), (PV.int .i64 a0_2), (PV.int .i64 a0_3), (PV.slice 6 a0_4)]), (PV.int .i64 a1), a2] =
  (((PV.asFn a2)).bind (fun v1 => (((wc W (Prod.fst v1) (((Prod.fst (Prod.snd v1)) ++ [(PV.agg [(PV.int .i64 a0_0), (PV.int .i64 a0_1), (PV.int .i64 a0_2), (PV.int .i64 a0_3), (PV.slice 6 a0_4)]), (PV.int .i64 a1)]) ++ (Prod.snd (Prod.snd v1))))).bind (fun v2 => (c_b v2 (fun v3 => (bif (!v3) then (some (PV.bool false)) else (L_expr_each_1 a1 a2 a0_4 (((List.length a0_4) : Nat) : Int) (0 : Int))))))))) := go (by kernel_rfl) (by kernel_rfl) T114 (by kernel_rfl)
noncomputable def jF114o1 : Jn (AV × List Ob) := (Classical.choose (exT fi114 (finO cfg fi114 false 1))).1
noncomputable def lF114o1 : Ln (AV × List Ob) := (Classical.choose (exT fi114 (finO cfg fi114 false 1))).2
theorem T114o1 : Tied cfg W fi114 (finO cfg fi114 false 1) jF114o1 lF114o1 := Classical.choose_spec (exT fi114 (finO cfg fi114 false 1))
noncomputable def L_expr_each_o1_1 (i12 : Int) (l13 : List PV) (i14 : Int) (i15 : Int) (i16 : Int) : Option (AV × List Ob) := lF114o1 [0, 1, 0, 1, 1] 1 (St.mk [(1, (AV.pv (PV.int .i64 i12))), (2, (AV.fnv n_expr_May_1 [] [(AV.own 0 0)])), (15, (AV.pv (PV.slice 6 l13))), (16, (AV.pv (PV.int .i64 i14))), (17, (AV.pv (PV.int .i64 i15)))] [(Ob.var false 0 (AV.pv (PV.int .i64 i16)))])
theorem L_expr_each_o1_1_eq (i12 : Int) (l13 : List PV) (i14 : Int) (i15 : Int) (i16 : Int) : L_expr_each_o1_1 i12 l13 i14 i15 i16 =
  (bif (decide (i15 < i14)) then (bif (decide ((0 : Int) ≤ i15)) then (((l13)[(Int.toNat i15)]?).bind (fun v17 => (c_g_i64_i64_i64_i64_s6 v17 (fun v18 v19 v20 v21 v22 => (((W n_expr_each false [(AV.pv (PV.agg [(PV.int .i64 v18), (PV.int .i64 v19), (PV.int .i64 v20), (PV.int .i64 v21), (PV.slice 6 v22)])), (AV.pv (PV.int .i64 (IntKind.wrap .i64 (i12 + (1 : Int) : Int)))), (AV.fnv n_expr_May_1 [] [(AV.own 0 0)])] [(Ob.var false 0 (AV.pv (PV.int .i64 i16)))])).bind (fun v30 => (k_5b106d v30 (fun v31 v32 => (c_b v31 (fun v33 => (bif (!v33) then (some ((AV.pv (PV.bool false)), [(Ob.var false 0 (AV.pv (PV.int .i64 v32)))])) else (L_expr_each_o1_1 i12 l13 i14 (IntKind.wrap .i64 (i15 + (1 : Int) : Int)) v32)))))))))))) else none) else (some ((AV.pv (PV.bool true)), [(Ob.var false 0 (AV.pv (PV.int .i64 i16)))]))) := (T114o1.loop [1, 1, 0, 1, 0] 1 _ rfl).trans (by kernel_rfl)
theorem o_expr_each_o1_1 (i0 : Int) (i1 : Int) (i2 : Int) (i3 : Int) (l4 : List PV) (i5 : Int) (i6 : Int) : W n_expr_each false [(AV.pv (PV.agg [(PV.int .i64 i0), (PV.int .i64 i1), (PV.int .i64 i2), (PV.int .i64 i3), (PV.slice 6 l4)])), (AV.pv (PV.int .i64 i5)), (AV.fnv n_expr_May_1 [] [(AV.own 0 0)])] [(Ob.var false 0 (AV.pv (PV.int .i64 i6)))] =
  (((W n_expr_May_1 false [(AV.pv (PV.agg [(PV.int .i64 i0), (PV.int .i64 i1), (PV.int .i64 i2), (PV.int .i64 i3), (PV.slice 6 l4)])), (AV.pv (PV.int .i64 i5)), (AV.own 0 0)] [(Ob.var false 0 (AV.pv (PV.int .i64 i6)))])).bind (fun v8 => (k_5b106d v8 (fun v9 v10 => (c_b v9 (fun v11 => (bif (!v11) then (some ((AV.pv (PV.bool false)), [(Ob.var false 0 (AV.pv (PV.int .i64 v10)))])) else (L_expr_each_o1_1 i5 l4 (((List.length l4) : Nat) : Int) (0 : Int) v10)))))))) := goO (by kernel_rfl) (by kernel_rfl) T114o1 rfl (by kernel_rfl)
noncomputable def jF115 : Jn PV := (Classical.choose (exT fi115 (fin cfg fi115))).1
noncomputable def lF115 : Ln PV := (Classical.choose (exT fi115 (fin cfg fi115))).2
theorem T115 : Tied cfg W fi115 (fin cfg fi115) jF115 lF115 := Classical.choose_spec (exT fi115 (fin cfg fi115))
theorem e_expr_May_1 (a0_0 : Int) (a0_1 : Int) (a0_2 : Int) (a0_3 : Int) (a0_4 : List PV) (a1 : Int) (c0 : Int) : wc W n_expr_May_1 [(PV.agg [(PV.int .i64 a0_0), (PV.int .i64 a0_1), (PV.int .i64 a0_2), (PV.int .i64 a0_3), (PV.slice 6 a0_4)]), (PV.int .i64 a1), (PV.imm 0 (PV.int .i64 c0) 0)] =
  none := go (by kernel_rfl) (by kernel_rfl) T115 (by kernel_rfl)
noncomputable def jF115o1 : Jn (AV × List Ob) := (Classical.choose (exT fi115 (finO cfg fi115 false 1))).1
noncomputable def lF115o1 : Ln (AV × List Ob) := (Classical.choose (exT fi115 (finO cfg fi115 false 1))).2
theorem T115o1 : Tied cfg W fi115 (finO cfg fi115 false 1) jF115o1 lF115o1 := Classical.choose_spec (exT fi115 (finO cfg fi115 false 1))
theorem o_expr_May_1_o1_1 (i0 : Int) (i1 : Int) (i2 : Int) (i3 : Int) (l4 : List PV) (i5 : Int) (i6 : Int) : W n_expr_May_1 false [(AV.pv (PV.agg [(PV.int .i64 i0), (PV.int .i64 i1), (PV.int .i64 i2), (PV.int .i64 i3), (PV.slice 6 l4)])), (AV.pv (PV.int .i64 i5)), (AV.own 0 0)] [(Ob.var false 0 (AV.pv (PV.int .i64 i6)))] =
  (bif (decide ((IntKind.wrap .i64 (i6 + (1 : Int) : Int)) ≤ (30 : Int))) then (bif (decide (i5 ≤ (6 : Int))) then (((wc W n_expr_part [(PV.agg [(PV.int .i64 i0), (PV.int .i64 i1), (PV.int .i64 i2), (PV.int .i64 i3), (PV.slice 6 l4)])])).bind (fun v1 => (c_b v1 (fun v2 => (some ((AV.pv (PV.bool v2)), [(Ob.var false 0 (AV.pv (PV.int .i64 (IntKind.wrap .i64 (i6 + (1 : Int) : Int)))))])))))) else (some ((AV.pv (PV.bool false)), [(Ob.var false 0 (AV.pv (PV.int .i64 (IntKind.wrap .i64 (i6 + (1 : Int) : Int)))))]))) else (some ((AV.pv (PV.bool false)), [(Ob.var false 0 (AV.pv (PV.int .i64 (IntKind.wrap .i64 (i6 + (1 : Int) : Int)))))]))) := goO (by kernel_rfl) (by kernel_rfl) T115o1 rfl (by kernel_rfl)
noncomputable def jF116 : Jn PV := (Classical.choose (exT fi116 (fin cfg fi116))).1
noncomputable def lF116 : Ln PV := (Classical.choose (exT fi116 (fin cfg fi116))).2
theorem T116 : Tied cfg W fi116 (fin cfg fi116) jF116 lF116 := Classical.choose_spec (exT fi116 (fin cfg fi116))
noncomputable def J_expr_part_1 (i5 : Int) (i6 : Int) (i7 : Int) (i8 : Int) (l9 : List PV) (b10 : Bool) (i11 : Int) (i12 : Int) (p13 : PV) : Option PV := jF116 [1, 1, 1] (St.mk [(1, (AV.pv (PV.imm 6 (PV.agg [(PV.int .i64 i5), (PV.int .i64 i6), (PV.int .i64 i7), (PV.int .i64 i8), (PV.slice 6 l9)]) 0))), (4, (AV.pv (PV.bool b10)))] [(Ob.var false 4 (AV.pv (PV.agg [(PV.int .i64 i11), (PV.int .i64 i12), p13])))])
noncomputable def J_expr_part_2 (i14 : Int) (i15 : Int) (i16 : Int) (i17 : Int) (l18 : List PV) (b19 : Bool) (b20 : Bool) (i21 : Int) (i22 : Int) (p23 : PV) : Option PV := jF116 [1, 1, 1, 1] (St.mk [(1, (AV.pv (PV.imm 6 (PV.agg [(PV.int .i64 i14), (PV.int .i64 i15), (PV.int .i64 i16), (PV.int .i64 i17), (PV.slice 6 l18)]) 0))), (4, (AV.pv (PV.bool b19))), (5, (AV.pv (PV.bool b20)))] [(Ob.var false 4 (AV.pv (PV.agg [(PV.int .i64 i21), (PV.int .i64 i22), p23])))])
noncomputable def J_expr_part_3 (i27 : Int) (i28 : Int) (i29 : Int) (i30 : Int) (l31 : List PV) (b32 : Bool) (b33 : Bool) (b34 : Bool) (i35 : Int) (i36 : Int) (p37 : PV) : Option PV := jF116 [1, 1, 1, 1, 1] (St.mk [(1, (AV.pv (PV.imm 6 (PV.agg [(PV.int .i64 i27), (PV.int .i64 i28), (PV.int .i64 i29), (PV.int .i64 i30), (PV.slice 6 l31)]) 0))), (4, (AV.pv (PV.bool b32))), (5, (AV.pv (PV.bool b33))), (6, (AV.pv (PV.bool b34)))] [(Ob.var false 4 (AV.pv (PV.agg [(PV.int .i64 i35), (PV.int .i64 i36), p37])))])
theorem J_expr_part_1_eq (i5 : Int) (i6 : Int) (i7 : Int) (i8 : Int) (l9 : List PV) (b10 : Bool) (i11 : Int) (i12 : Int) (p13 : PV) : J_expr_part_1 i5 i6 i7 i8 l9 b10 i11 i12 p13 =
  (bif (i6 == (0 : Int)) then (J_expr_part_2 i5 i6 i7 i8 l9 b10 true i11 i12 p13) else (bif (i5 == (1 : Int)) then (bif (decide (GT.gt i6 (0 : Int))) then (J_expr_part_2 i5 i6 i7 i8 l9 b10 (decide (i6 ≤ (15 : Int))) i11 i12 p13) else (J_expr_part_2 i5 i6 i7 i8 l9 b10 false i11 i12 p13)) else (J_expr_part_2 i5 i6 i7 i8 l9 b10 false i11 i12 p13))) := (T116.join [1, 1, 1] _).trans (by kernel_rfl)
theorem J_expr_part_2_eq (i14 : Int) (i15 : Int) (i16 : Int) (i17 : Int) (l18 : List PV) (b19 : Bool) (b20 : Bool) (i21 : Int) (i22 : Int) (p23 : PV) : J_expr_part_2 i14 i15 i16 i17 l18 b19 b20 i21 i22 p23 =
  (((((bif (i16 == (0 : Int)) then (bif (i17 == (0 : Int)) then (some true) else (some false)) else (some false))).bind (fun v24 => (some (PV.bool v24))))).bind (fun v25 => (c_b v25 (fun v26 => (bif v26 then (J_expr_part_3 i14 i15 i16 i17 l18 b19 b20 true i21 i22 p23) else (bif (i14 == (0 : Int)) then (((wc W n_val_May [(PV.agg [(PV.int .i64 i16), (PV.int .i64 i17)])])).bind (fun v38 => (c_b v38 (fun v39 => (J_expr_part_3 i14 i15 i16 i17 l18 b19 b20 v39 i21 i22 p23))))) else (J_expr_part_3 i14 i15 i16 i17 l18 b19 b20 false i21 i22 p23))))))) := (T116.join [1, 1, 1, 1] _).trans (by kernel_rfl)
theorem J_expr_part_3_eq (i27 : Int) (i28 : Int) (i29 : Int) (i30 : Int) (l31 : List PV) (b32 : Bool) (b33 : Bool) (b34 : Bool) (i35 : Int) (i36 : Int) (p37 : PV) : J_expr_part_3 i27 i28 i29 i30 l31 b32 b33 b34 i35 i36 p37 =
  (bif (decide (GE.ge i27 (0 : Int))) then (bif (decide (i27 < (11 : Int))) then (bif b32 then (bif b33 then (some (PV.bool b34)) else (some (PV.bool false))) else (some (PV.bool false))) else (some (PV.bool false))) else (some (PV.bool false))) := (T116.join [1, 1, 1, 1, 1] _).trans (by kernel_rfl)
theorem e_expr_part (a0_0 : Int) (a0_1 : Int) (a0_2 : Int) (a0_3 : Int) (a0_4 : List PV) : wc W n_expr_part [(PV.agg [(PV.int .i64 a0_0), (PV.int .i64 a0_1), (PV.int .i64 a0_2), (PV.int .i64 a0_3), (PV.slice 6 a0_4)])] =
  (((wc W n_expr_ways [(PV.int .i64 a0_0)])).bind (fun v1 => (c_g_i64_i64_p v1 (fun v2 v3 v4 => (bif (decide (GE.ge (((List.length a0_4) : Nat) : Int) v2)) then (J_expr_part_1 a0_0 a0_1 a0_2 a0_3 a0_4 (decide ((((List.length a0_4) : Nat) : Int) ≤ v3)) v2 v3 v4) else (J_expr_part_1 a0_0 a0_1 a0_2 a0_3 a0_4 false v2 v3 v4)))))) := go (by kernel_rfl) (by kernel_rfl) T116 (by kernel_rfl)
noncomputable def jF117 : Jn PV := (Classical.choose (exT fi117 (fin cfg fi117))).1
noncomputable def lF117 : Ln PV := (Classical.choose (exT fi117 (fin cfg fi117))).2
theorem T117 : Tied cfg W fi117 (fin cfg fi117) jF117 lF117 := Classical.choose_spec (exT fi117 (fin cfg fi117))
theorem e_expr_ways (a0 : Int) : wc W n_expr_ways [(PV.int .i64 a0)] =
  (bif (a0 == (2 : Int)) then (((wc W n_expr_two [(PV.fn n_val_Add [] [])])).bind (fun v1 => (c_g_i64_i64_p v1 (fun v2 v3 v4 => (some (PV.agg [(PV.int .i64 v2), (PV.int .i64 v3), v4])))))) else (bif (a0 == (3 : Int)) then (((wc W n_expr_two [(PV.fn n_val_Sub [] [])])).bind (fun v5 => (c_g_i64_i64_p v5 (fun v6 v7 v8 => (some (PV.agg [(PV.int .i64 v6), (PV.int .i64 v7), v8])))))) else (bif (a0 == (4 : Int)) then (((wc W n_expr_two [(PV.fn n_val_Mul [] [])])).bind (fun v9 => (c_g_i64_i64_p v9 (fun v10 v11 v12 => (some (PV.agg [(PV.int .i64 v10), (PV.int .i64 v11), v12])))))) else (bif (a0 == (5 : Int)) then (((wc W n_expr_two [(PV.fn n_val_Div [] [])])).bind (fun v13 => (c_g_i64_i64_p v13 (fun v14 v15 v16 => (some (PV.agg [(PV.int .i64 v14), (PV.int .i64 v15), v16])))))) else (bif (a0 == (6 : Int)) then (((wc W n_expr_two [(PV.fn n_val_Eq [] [])])).bind (fun v17 => (c_g_i64_i64_p v17 (fun v18 v19 v20 => (some (PV.agg [(PV.int .i64 v18), (PV.int .i64 v19), v20])))))) else (bif (a0 == (7 : Int)) then (((wc W n_expr_two [(PV.fn n_val_Lt [] [])])).bind (fun v21 => (c_g_i64_i64_p v21 (fun v22 v23 v24 => (some (PV.agg [(PV.int .i64 v22), (PV.int .i64 v23), v24])))))) else (bif (a0 == (8 : Int)) then (some (PV.agg [(PV.int .i64 (0 : Int)), (PV.int .i64 (4 : Int)), (PV.fn n_expr_ways_1 [] [])])) else (bif (a0 == (9 : Int)) then (some (PV.agg [(PV.int .i64 (0 : Int)), (PV.int .i64 (4 : Int)), (PV.fn n_expr_ways_2 [] [])])) else (bif (a0 == (10 : Int)) then (some (PV.agg [(PV.int .i64 (1 : Int)), (PV.int .i64 (1 : Int)), (PV.fn n_expr_ways_3 [] [])])) else (some (PV.agg [(PV.int .i64 (0 : Int)), (PV.int .i64 (0 : Int)), PV.nilfn]))))))))))) := go (by kernel_rfl) (by kernel_rfl) T117 (by kernel_rfl)
noncomputable def jF120 : Jn PV := (Classical.choose (exT fi120 (fin cfg fi120))).1
noncomputable def lF120 : Ln PV := (Classical.choose (exT fi120 (fin cfg fi120))).2
theorem T120 : Tied cfg W fi120 (fin cfg fi120) jF120 lF120 := Classical.choose_spec (exT fi120 (fin cfg fi120))
theorem e_expr_two (a0 : PV) : wc W n_expr_two [a0] =
  (bif (PV.okSh 0 a0) then (some (PV.agg [(PV.int .i64 (2 : Int)), (PV.int .i64 (2 : Int)), (PV.fn n_expr_two_1 [] [(PV.imm 0 a0 0)])])) else none) := go (by kernel_rfl) (by kernel_rfl) T120 (by kernel_rfl)
noncomputable def jF121 : Jn PV := (Classical.choose (exT fi121 (fin cfg fi121))).1
noncomputable def lF121 : Ln PV := (Classical.choose (exT fi121 (fin cfg fi121))).2
theorem T121 : Tied cfg W fi121 (fin cfg fi121) jF121 lF121 := Classical.choose_spec (exT fi121 (fin cfg fi121))
theorem e_val_Add (a0_0 : Int) (a0_1 : Int) (a1_0 : Int) (a1_1 : Int) : wc W n_val_Add [(PV.agg [(PV.int .i64 a0_0), (PV.int .i64 a0_1)]), (PV.agg [(PV.int .i64 a1_0), (PV.int .i64 a1_1)])] =
  (((wc W n_val_reckon [(PV.agg [(PV.int .i64 a0_0), (PV.int .i64 a0_1)]), (PV.agg [(PV.int .i64 a1_0), (PV.int .i64 a1_1)]), (PV.fn n_val_Add_1 [] [])])).bind (fun v1 => (c_g_i64_i64 v1 (fun v2 v3 => (some (PV.agg [(PV.int .i64 v2), (PV.int .i64 v3)])))))) := go (by kernel_rfl) (by kernel_rfl) T121 (by kernel_rfl)
noncomputable def jF122 : Jn PV := (Classical.choose (exT fi122 (fin cfg fi122))).1
noncomputable def lF122 : Ln PV := (Classical.choose (exT fi122 (fin cfg fi122))).2
theorem T122 : Tied cfg W fi122 (fin cfg fi122) jF122 lF122 := Classical.choose_spec (exT fi122 (fin cfg fi122))
theorem e_val_Sub (a0_0 : Int) (a0_1 : Int) (a1_0 : Int) (a1_1 : Int) : wc W n_val_Sub [(PV.agg [(PV.int .i64 a0_0), (PV.int .i64 a0_1)]), (PV.agg [(PV.int .i64 a1_0), (PV.int .i64 a1_1)])] =
  (((wc W n_val_reckon [(PV.agg [(PV.int .i64 a0_0), (PV.int .i64 a0_1)]), (PV.agg [(PV.int .i64 a1_0), (PV.int .i64 a1_1)]), (PV.fn n_val_Sub_1 [] [])])).bind (fun v1 => (c_g_i64_i64 v1 (fun v2 v3 => (some (PV.agg [(PV.int .i64 v2), (PV.int .i64 v3)])))))) := go (by kernel_rfl) (by kernel_rfl) T122 (by kernel_rfl)
noncomputable def jF123 : Jn PV := (Classical.choose (exT fi123 (fin cfg fi123))).1
noncomputable def lF123 : Ln PV := (Classical.choose (exT fi123 (fin cfg fi123))).2
theorem T123 : Tied cfg W fi123 (fin cfg fi123) jF123 lF123 := Classical.choose_spec (exT fi123 (fin cfg fi123))
theorem e_val_Mul (a0_0 : Int) (a0_1 : Int) (a1_0 : Int) (a1_1 : Int) : wc W n_val_Mul [(PV.agg [(PV.int .i64 a0_0), (PV.int .i64 a0_1)]), (PV.agg [(PV.int .i64 a1_0), (PV.int .i64 a1_1)])] =
  (((wc W n_val_reckon [(PV.agg [(PV.int .i64 a0_0), (PV.int .i64 a0_1)]), (PV.agg [(PV.int .i64 a1_0), (PV.int .i64 a1_1)]), (PV.fn n_val_Mul_1 [] [])])).bind (fun v1 => (c_g_i64_i64 v1 (fun v2 v3 => (some (PV.agg [(PV.int .i64 v2), (PV.int .i64 v3)])))))) := go (by kernel_rfl) (by kernel_rfl) T123 (by kernel_rfl)
noncomputable def jF124 : Jn PV := (Classical.choose (exT fi124 (fin cfg fi124))).1
noncomputable def lF124 : Ln PV := (Classical.choose (exT fi124 (fin cfg fi124))).2
theorem T124 : Tied cfg W fi124 (fin cfg fi124) jF124 lF124 := Classical.choose_spec (exT fi124 (fin cfg fi124))
theorem e_val_Div (a0_0 : Int) (a0_1 : Int) (a1_0 : Int) (a1_1 : Int) : wc W n_val_Div [(PV.agg [(PV.int .i64 a0_0), (PV.int .i64 a0_1)]), (PV.agg [(PV.int .i64 a1_0), (PV.int .i64 a1_1)])] =
  (((wc W n_val_reckon [(PV.agg [(PV.int .i64 a0_0), (PV.int .i64 a0_1)]), (PV.agg [(PV.int .i64 a1_0), (PV.int .i64 a1_1)]), (PV.fn n_val_Div_1 [] [])])).bind (fun v1 => (c_g_i64_i64 v1 (fun v2 v3 => (some (PV.agg [(PV.int .i64 v2), (PV.int .i64 v3)])))))) := go (by kernel_rfl) (by kernel_rfl) T124 (by kernel_rfl)
noncomputable def jF125 : Jn PV := (Classical.choose (exT fi125 (fin cfg fi125))).1
noncomputable def lF125 : Ln PV := (Classical.choose (exT fi125 (fin cfg fi125))).2
theorem T125 : Tied cfg W fi125 (fin cfg fi125) jF125 lF125 := Classical.choose_spec (exT fi125 (fin cfg fi125))
theorem e_val_Eq (a0_0 : Int) (a0_1 : Int) (a1_0 : Int) (a1_1 : Int) : wc W n_val_Eq [(PV.agg [(PV.int .i64 a0_0), (PV.int .i64 a0_1)]), (PV.agg [(PV.int .i64 a1_0), (PV.int .i64 a1_1)])] =
  (((wc W n_val_odd [(PV.slice 3 [(PV.agg [(PV.int .i64 a0_0), (PV.int .i64 a0_1)]), (PV.agg [(PV.int .i64 a1_0), (PV.int .i64 a1_1)])])])).bind (fun v1 => (((PV.asTup v1)).bind (fun v2 => (((v2)[0]?).bind (fun v3 => (c_g_i64_i64 v3 (fun v4 v5 => (((PV.asTup v1)).bind (fun v6 => (((v6)[1]?).bind (fun v7 => (c_b v7 (fun v8 => (bif v8 then (some (PV.agg [(PV.int .i64 v4), (PV.int .i64 v5)])) else (((((bif (a0_0 == a1_0) then (bif (a0_1 == a1_1) then (some true) else (some false)) else (some false))).bind (fun v9 => (some (PV.bool v9))))).bind (fun v10 => (c_b v10 (fun v11 => (((wc W n_val_of [(PV.bool v11)])).bind (fun v12 => (c_g_i64_i64 v12 (fun v13 v14 => (some (PV.agg [(PV.int .i64 v13), (PV.int .i64 v14)]))))))))))))))))))))))))) := go (by kernel_rfl) (by kernel_rfl) T125 (by kernel_rfl)
noncomputable def jF126 : Jn PV := (Classical.choose (exT fi126 (fin cfg fi126))).1
noncomputable def lF126 : Ln PV := (Classical.choose (exT fi126 (fin cfg fi126))).2
theorem T126 : Tied cfg W fi126 (fin cfg fi126) jF126 lF126 := Classical.choose_spec (exT fi126 (fin cfg fi126))
theorem e_val_Lt (a0_0 : Int) (a0_1 : Int) (a1_0 : Int) (a1_1 : Int) : wc W n_val_Lt [(PV.agg [(PV.int .i64 a0_0), (PV.int .i64 a0_1)]), (PV.agg [(PV.int .i64 a1_0), (PV.int .i64 a1_1)])] =
  (((wc W n_val_odd [(PV.slice 3 [(PV.agg [(PV.int .i64 a0_0), (PV.int .i64 a0_1)]), (PV.agg [(PV.int .i64 a1_0), (PV.int .i64 a1_1)])])])).bind (fun v1 => (((PV.asTup v1)).bind (fun v2 => (((v2)[0]?).bind (fun v3 => (c_g_i64_i64 v3 (fun v4 v5 => (((PV.asTup v1)).bind (fun v6 => (((v6)[1]?).bind (fun v7 => (c_b v7 (fun v8 => (bif v8 then (some (PV.agg [(PV.int .i64 v4), (PV.int .i64 v5)])) else (((wc W n_val_of [(PV.bool (decide (a0_1 < a1_1)))])).bind (fun v9 => (c_g_i64_i64 v9 (fun v10 v11 => (some (PV.agg [(PV.int .i64 v10), (PV.int .i64 v11)]))))))))))))))))))))) := go (by kernel_rfl) (by kernel_rfl) T126 (by kernel_rfl)
noncomputable def jF127 : Jn PV := (Classical.choose (exT fi127 (fin cfg fi127))).1
noncomputable def lF127 : Ln PV := (Classical.choose (exT fi127 (fin cfg fi127))).2
theorem T127 : Tied cfg W fi127 (fin cfg fi127) jF127 lF127 := Classical.choose_spec (exT fi127 (fin cfg fi127))
theorem e_expr_ways_1 (a0 : List PV) : wc W n_expr_ways_1 [(PV.slice 3 a0)] =
  (((wc W n_val_And [(PV.slice 3 a0)])).bind (fun v1 => (c_g_i64_i64 v1 (fun v2 v3 => (some (PV.agg [(PV.int .i64 v2), (PV.int .i64 v3)])))))) := go (by kernel_rfl) (by kernel_rfl) T127 (by kernel_rfl)
noncomputable def jF128 : Jn PV := (Classical.choose (exT fi128 (fin cfg fi128))).1
noncomputable def lF128 : Ln PV := (Classical.choose (exT fi128 (fin cfg fi128))).2
theorem T128 : Tied cfg W fi128 (fin cfg fi128) jF128 lF128 := Classical.choose_spec (exT fi128 (fin cfg fi128))
theorem e_val_And (a0 : List PV) : wc W n_val_And [(PV.slice 3 a0)] =
  (((wc W n_val_Of [(PV.int .i64 (0 : Int))])).bind (fun v1 => (c_g_i64_i64 v1 (fun v2 v3 => (((wc W n_val_Of [(PV.int .i64 (1 : Int))])).bind (fun v4 => (c_g_i64_i64 v4 (fun v5 v6 => (((wc W n_val_three [(PV.slice 3 a0), (PV.fn n_val_isFalse [] []), (PV.agg [(PV.int .i64 v2), (PV.int .i64 v3)]), (PV.agg [(PV.int .i64 v5), (PV.int .i64 v6)])])).bind (fun v7 => (c_g_i64_i64 v7 (fun v8 v9 => (some (PV.agg [(PV.int .i64 v8), (PV.int .i64 v9)])))))))))))))) := go (by kernel_rfl) (by kernel_rfl) T128 (by kernel_rfl)
noncomputable def jF129 : Jn PV := (Classical.choose (exT fi129 (fin cfg fi129))).1
noncomputable def lF129 : Ln PV := (Classical.choose (exT fi129 (fin cfg fi129))).2
theorem T129 : Tied cfg W fi129 (fin cfg fi129) jF129 lF129 := Classical.choose_spec (exT fi129 (fin cfg fi129))
theorem e_expr_ways_2 (a0 : List PV) : wc W n_expr_ways_2 [(PV.slice 3 a0)] =
  (((wc W n_val_Or [(PV.slice 3 a0)])).bind (fun v1 => (c_g_i64_i64 v1 (fun v2 v3 => (some (PV.agg [(PV.int .i64 v2), (PV.int .i64 v3)])))))) := go (by kernel_rfl) (by kernel_rfl) T129 (by kernel_rfl)
noncomputable def jF130 : Jn PV := (Classical.choose (exT fi130 (fin cfg fi130))).1
noncomputable def lF130 : Ln PV := (Classical.choose (exT fi130 (fin cfg fi130))).2
theorem T130 : Tied cfg W fi130 (fin cfg fi130) jF130 lF130 := Classical.choose_spec (exT fi130 (fin cfg fi130))
theorem e_val_Or (a0 : List PV) : wc W n_val_Or [(PV.slice 3 a0)] =
  (((wc W n_val_Of [(PV.int .i64 (1 : Int))])).bind (fun v1 => (c_g_i64_i64 v1 (fun v2 v3 => (((wc W n_val_Of [(PV.int .i64 (0 : Int))])).bind (fun v4 => (c_g_i64_i64 v4 (fun v5 v6 => (((wc W n_val_three [(PV.slice 3 a0), (PV.fn n_val_True [] []), (PV.agg [(PV.int .i64 v2), (PV.int .i64 v3)]), (PV.agg [(PV.int .i64 v5), (PV.int .i64 v6)])])).bind (fun v7 => (c_g_i64_i64 v7 (fun v8 v9 => (some (PV.agg [(PV.int .i64 v8), (PV.int .i64 v9)])))))))))))))) := go (by kernel_rfl) (by kernel_rfl) T130 (by kernel_rfl)
noncomputable def jF131 : Jn PV := (Classical.choose (exT fi131 (fin cfg fi131))).1
noncomputable def lF131 : Ln PV := (Classical.choose (exT fi131 (fin cfg fi131))).2
theorem T131 : Tied cfg W fi131 (fin cfg fi131) jF131 lF131 := Classical.choose_spec (exT fi131 (fin cfg fi131))
theorem e_expr_ways_3 (a0 : List PV) : wc W n_expr_ways_3 [(PV.slice 3 a0)] =
  (((a0)[0]?).bind (fun v1 => (c_g_i64_i64 v1 (fun v2 v3 => (((wc W n_val_Not [(PV.agg [(PV.int .i64 v2), (PV.int .i64 v3)])])).bind (fun v4 => (c_g_i64_i64 v4 (fun v5 v6 => (some (PV.agg [(PV.int .i64 v5), (PV.int .i64 v6)])))))))))) := go (by kernel_rfl) (by kernel_rfl) T131 (by kernel_rfl)
noncomputable def jF132 : Jn PV := (Classical.choose (exT fi132 (fin cfg fi132))).1
noncomputable def lF132 : Ln PV := (Classical.choose (exT fi132 (fin cfg fi132))).2
theorem T132 : Tied cfg W fi132 (fin cfg fi132) jF132 lF132 := Classical.choose_spec (exT fi132 (fin cfg fi132))
theorem e_val_Not (a0_0 : Int) (a0_1 : Int) : wc W n_val_Not [(PV.agg [(PV.int .i64 a0_0), (PV.int .i64 a0_1)])] =
  (((wc W n_val_odd [(PV.slice 3 [(PV.agg [(PV.int .i64 a0_0), (PV.int .i64 a0_1)])])])).bind (fun v1 => (((PV.asTup v1)).bind (fun v2 => (((v2)[0]?).bind (fun v3 => (c_g_i64_i64 v3 (fun v4 v5 => (((PV.asTup v1)).bind (fun v6 => (((v6)[1]?).bind (fun v7 => (c_b v7 (fun v8 => (bif v8 then (some (PV.agg [(PV.int .i64 v4), (PV.int .i64 v5)])) else (((wc W n_val_of [(PV.bool (a0_1 == (0 : Int)))])).bind (fun v9 => (c_g_i64_i64 v9 (fun v10 v11 => (some (PV.agg [(PV.int .i64 v10), (PV.int .i64 v11)]))))))))))))))))))))) := go (by kernel_rfl) (by kernel_rfl) T132 (by kernel_rfl)
noncomputable def jF133 : Jn PV := (Classical.choose (exT fi133 (fin cfg fi133))).1
noncomputable def lF133 : Ln PV := (Classical.choose (exT fi133 (fin cfg fi133))).2
theorem T133 : Tied cfg W fi133 (fin cfg fi133) jF133 lF133 := Classical.choose_spec (exT fi133 (fin cfg fi133))
theorem e_expr_two_1 (a0 : List PV) (c0 : PV) : wc W n_expr_two_1 [(PV.slice 3 a0), (PV.imm 0 c0 0)] =
  (((a0)[0]?).bind (fun v1 => (c_g_i64_i64 v1 (fun v2 v3 => (((a0)[1]?).bind (fun v4 => (c_g_i64_i64 v4 (fun v5 v6 => (((PV.asFn c0)).bind (fun v7 => (((wc W (Prod.fst v7) (((Prod.fst (Prod.snd v7)) ++ [(PV.agg [(PV.int .i64 v2), (PV.int .i64 v3)]), (PV.agg [(PV.int .i64 v5), (PV.int .i64 v6)])]) ++ (Prod.snd (Prod.snd v7))))).bind (fun v8 => (c_g_i64_i64 v8 (fun v9 v10 => (some (PV.agg [(PV.int .i64 v9), (PV.int .i64 v10)])))))))))))))))) := go (by kernel_rfl) (by kernel_rfl) T133 (by kernel_rfl)
noncomputable def jF134 : Jn PV := (Classical.choose (exT fi134 (fin cfg fi134))).1
noncomputable def lF134 : Ln PV := (Classical.choose (exT fi134 (fin cfg fi134))).2
theorem T134 : Tied cfg W fi134 (fin cfg fi134) jF134 lF134 := Classical.choose_spec (exT fi134 (fin cfg fi134))
theorem e_val_reckon (a0_0 : Int) (a0_1 : Int) (a1_0 : Int) (a1_1 : Int) (a2 : PV) : wc W n_val_reckon [(PV.agg [(PV.int .i64 a0_0), (PV.int .i64 a0_1)]), (PV.agg [(PV.int .i64 a1_0), (PV.int .i64 a1_1)]), a2] =
  (((wc W n_val_odd [(PV.slice 3 [(PV.agg [(PV.int .i64 a0_0), (PV.int .i64 a0_1)]), (PV.agg [(PV.int .i64 a1_0), (PV.int .i64 a1_1)])])])).bind (fun v1 => (((PV.asTup v1)).bind (fun v2 => (((v2)[0]?).bind (fun v3 => (c_g_i64_i64 v3 (fun v4 v5 => (((PV.asTup v1)).bind (fun v6 => (((v6)[1]?).bind (fun v7 => (c_b v7 (fun v8 => (bif v8 then (some (PV.agg [(PV.int .i64 v4), (PV.int .i64 v5)])) else (((PV.asFn a2)).bind (fun v9 => (((wc W (Prod.fst v9) (((Prod.fst (Prod.snd v9)) ++ [(PV.int .i64 a0_1), (PV.int .i64 a1_1)]) ++ (Prod.snd (Prod.snd v9))))).bind (fun v10 => (((PV.asTup v10)).bind (fun v11 => (((v11)[0]?).bind (fun v12 => (c_i64 v12 (fun v13 => (((PV.asTup v10)).bind (fun v14 => (((v14)[1]?).bind (fun v15 => (c_b v15 (fun v16 => (bif (!v16) then (((wc W n_val_bad [])).bind (fun v17 => (c_g_i64_i64 v17 (fun v18 v19 => (some (PV.agg [(PV.int .i64 v18), (PV.int .i64 v19)])))))) else (((wc W n_val_Of [(PV.int .i64 v13)])).bind (fun v20 => (c_g_i64_i64 v20 (fun v21 v22 => (some (PV.agg [(PV.int .i64 v21), (PV.int .i64 v22)])))))))))))))))))))))))))))))))))))))) := go (by kernel_rfl) (by kernel_rfl) T134 (by kernel_rfl)
noncomputable def jF135 : Jn PV := (Classical.choose (exT fi135 (fin cfg fi135))).1
noncomputable def lF135 : Ln PV := (Classical.choose (exT fi135 (fin cfg fi135))).2
theorem T135 : Tied cfg W fi135 (fin cfg fi135) jF135 lF135 := Classical.choose_spec (exT fi135 (fin cfg fi135))
theorem e_val_Add_1 (a0 : Int) (a1 : Int) : wc W n_val_Add_1 [(PV.int .i64 a0), (PV.int .i64 a1)] =
  (some (PV.tup [(PV.int .i64 (IntKind.wrap .i64 (a0 + a1 : Int))), (PV.bool ((decide ((IntKind.wrap .i64 (a0 + a1 : Int)) < a0)) == (decide (a1 < (0 : Int)))))])) := go (by kernel_rfl) (by kernel_rfl) T135 (by kernel_rfl)
noncomputable def jF136 : Jn PV := (Classical.choose (exT fi136 (fin cfg fi136))).1
noncomputable def lF136 : Ln PV := (Classical.choose (exT fi136 (fin cfg fi136))).2
theorem T136 : Tied cfg W fi136 (fin cfg fi136) jF136 lF136 := Classical.choose_spec (exT fi136 (fin cfg fi136))
theorem e_val_Sub_1 (a0 : Int) (a1 : Int) : wc W n_val_Sub_1 [(PV.int .i64 a0), (PV.int .i64 a1)] =
  (some (PV.tup [(PV.int .i64 (IntKind.wrap .i64 (a0 - a1 : Int))), (PV.bool ((decide (GT.gt (IntKind.wrap .i64 (a0 - a1 : Int)) a0)) == (decide (a1 < (0 : Int)))))])) := go (by kernel_rfl) (by kernel_rfl) T136 (by kernel_rfl)
noncomputable def jF137 : Jn PV := (Classical.choose (exT fi137 (fin cfg fi137))).1
noncomputable def lF137 : Ln PV := (Classical.choose (exT fi137 (fin cfg fi137))).2
theorem T137 : Tied cfg W fi137 (fin cfg fi137) jF137 lF137 := Classical.choose_spec (exT fi137 (fin cfg fi137))
noncomputable def J_val_Mul_1_1 (i12 : Int) (i13 : Int) (i14 : Int) (i15 : Int) (i16 : Int) : Option PV := jF137 [1, 1, 1, 1] (St.mk [(0, (AV.pv (PV.int .i64 i12))), (1, (AV.pv (PV.int .i64 i13))), (6, (AV.pv (PV.int IntKind.u64 i14))), (7, (AV.pv (PV.int IntKind.u64 i15))), (8, (AV.pv (PV.int IntKind.u64 i16)))] [])
theorem J_val_Mul_1_1_eq (i12 : Int) (i13 : Int) (i14 : Int) (i15 : Int) (i16 : Int) : J_val_Mul_1_1 i12 i13 i14 i15 i16 =
  (bif (i14 == (0 : Int)) then (some (PV.tup [(PV.int .i64 (IntKind.wrap .i64 (i12 * i13 : Int))), (PV.bool (decide (i15 ≤ i16)))])) else (some (PV.tup [(PV.int .i64 (IntKind.wrap .i64 (i12 * i13 : Int))), (PV.bool false)]))) := (T137.join [1, 1, 1, 1] _).trans (by kernel_rfl)
theorem e_val_Mul_1 (a0 : Int) (a1 : Int) : wc W n_val_Mul_1 [(PV.int .i64 a0), (PV.int .i64 a1)] =
  (((wc W n_val_size [(PV.int .i64 a0)])).bind (fun v1 => (c_u64 v1 (fun v2 => (((wc W n_val_size [(PV.int .i64 a1)])).bind (fun v3 => (c_u64 v3 (fun v4 => (((wc W n_bits_Mul64 [(PV.int IntKind.u64 v2), (PV.int IntKind.u64 v4)])).bind (fun v5 => (((PV.asTup v5)).bind (fun v6 => (((v6)[0]?).bind (fun v7 => (c_u64 v7 (fun v8 => (((PV.asTup v5)).bind (fun v9 => (((v9)[1]?).bind (fun v10 => (c_u64 v10 (fun v11 => (bif (!((decide (a0 < (0 : Int))) == (decide (a1 < (0 : Int))))) then (J_val_Mul_1_1 a0 a1 v8 v11 (9223372036854775808 : Int)) else (J_val_Mul_1_1 a0 a1 v8 v11 (9223372036854775807 : Int))))))))))))))))))))))))) := go (by kernel_rfl) (by kernel_rfl) T137 (by kernel_rfl)
noncomputable def jF138 : Jn PV := (Classical.choose (exT fi138 (fin cfg fi138))).1
noncomputable def lF138 : Ln PV := (Classical.choose (exT fi138 (fin cfg fi138))).2
theorem T138 : Tied cfg W fi138 (fin cfg fi138) jF138 lF138 := Classical.choose_spec (exT fi138 (fin cfg fi138))
theorem e_bits_Mul64 (a0 : Int) (a1 : Int) : wc W n_bits_Mul64 [(PV.int IntKind.u64 a0), (PV.int IntKind.u64 a1)] =
  (some (PV.tup [(PV.int IntKind.u64 (IntKind.wrap .u64 ((IntKind.wrap .u64 ((IntKind.wrap .u64 ((Int.fdiv a0 (4294967296 : Int)) * (Int.fdiv a1 (4294967296 : Int)) : Int)) + (Int.fdiv (IntKind.wrap .u64 ((IntKind.wrap .u64 ((Int.fdiv a0 (4294967296 : Int)) * (IntKind.wrap .u64 (((BitVec.toNat (HAnd.hAnd (BitVec.ofInt 64 a1) (BitVec.ofInt 64 (4294967295 : Int)))) : Nat) : Int)) : Int)) + (Int.fdiv (IntKind.wrap .u64 ((IntKind.wrap .u64 (((BitVec.toNat (HAnd.hAnd (BitVec.ofInt 64 a0) (BitVec.ofInt 64 (4294967295 : Int)))) : Nat) : Int)) * (IntKind.wrap .u64 (((BitVec.toNat (HAnd.hAnd (BitVec.ofInt 64 a1) (BitVec.ofInt 64 (4294967295 : Int)))) : Nat) : Int)) : Int)) (4294967296 : Int)) : Int)) (4294967296 : Int)) : Int)) + (Int.fdiv (IntKind.wrap .u64 ((IntKind.wrap .u64 (((BitVec.toNat (HAnd.hAnd (BitVec.ofInt 64 (IntKind.wrap .u64 ((IntKind.wrap .u64 ((Int.fdiv a0 (4294967296 : Int)) * (IntKind.wrap .u64 (((BitVec.toNat (HAnd.hAnd (BitVec.ofInt 64 a1) (BitVec.ofInt 64 (4294967295 : Int)))) : Nat) : Int)) : Int)) + (Int.fdiv (IntKind.wrap .u64 ((IntKind.wrap .u64 (((BitVec.toNat (HAnd.hAnd (BitVec.ofInt 64 a0) (BitVec.ofInt 64 (4294967295 : Int)))) : Nat) : Int)) * (IntKind.wrap .u64 (((BitVec.toNat (HAnd.hAnd (BitVec.ofInt 64 a1) (BitVec.ofInt 64 (4294967295 : Int)))) : Nat) : Int)) : Int)) (4294967296 : Int)) : Int))) (BitVec.ofInt 64 (4294967295 : Int)))) : Nat) : Int)) + (IntKind.wrap .u64 ((IntKind.wrap .u64 (((BitVec.toNat (HAnd.hAnd (BitVec.ofInt 64 a0) (BitVec.ofInt 64 (4294967295 : Int)))) : Nat) : Int)) * (Int.fdiv a1 (4294967296 : Int)) : Int)) : Int)) (4294967296 : Int)) : Int))), (PV.int IntKind.u64 (IntKind.wrap .u64 (a0 * a1 : Int)))])) := go (by kernel_rfl) (by kernel_rfl) T138 (by kernel_rfl)
noncomputable def jF139 : Jn PV := (Classical.choose (exT fi139 (fin cfg fi139))).1
noncomputable def lF139 : Ln PV := (Classical.choose (exT fi139 (fin cfg fi139))).2
theorem T139 : Tied cfg W fi139 (fin cfg fi139) jF139 lF139 := Classical.choose_spec (exT fi139 (fin cfg fi139))
theorem e_val_size (a0 : Int) : wc W n_val_size [(PV.int .i64 a0)] =
  (bif (decide (a0 < (0 : Int))) then (some (PV.int IntKind.u64 (IntKind.wrap .u64 ((0 : Int) - (IntKind.wrap .u64 a0) : Int)))) else (some (PV.int IntKind.u64 (IntKind.wrap .u64 a0)))) := go (by kernel_rfl) (by kernel_rfl) T139 (by kernel_rfl)
noncomputable def jF140 : Jn PV := (Classical.choose (exT fi140 (fin cfg fi140))).1
noncomputable def lF140 : Ln PV := (Classical.choose (exT fi140 (fin cfg fi140))).2
theorem T140 : Tied cfg W fi140 (fin cfg fi140) jF140 lF140 := Classical.choose_spec (exT fi140 (fin cfg fi140))
noncomputable def J_val_Div_1_1 (i1 : Int) (i2 : Int) : Option PV := jF140 [1, 1] (St.mk [(0, (AV.pv (PV.int .i64 i1))), (1, (AV.pv (PV.int .i64 i2)))] [])
theorem J_val_Div_1_1_eq (i1 : Int) (i2 : Int) : J_val_Div_1_1 i1 i2 =
  (((bif (i2 == (0 : Int)) then none else (some (PV.int .i64 (IntKind.wrap .i64 (Int.tdiv i1 i2)))))).bind (fun v3 => (c_i64 v3 (fun v4 => (some (PV.tup [(PV.int .i64 v4), (PV.bool true)])))))) := (T140.join [1, 1] _).trans (by kernel_rfl)
theorem e_val_Div_1 (a0 : Int) (a1 : Int) : wc W n_val_Div_1 [(PV.int .i64 a0), (PV.int .i64 a1)] =
  (bif (a1 == (0 : Int)) then (some (PV.tup [(PV.int .i64 (0 : Int)), (PV.bool false)])) else (bif (a0 == (-9223372036854775808 : Int)) then (bif (a1 == (-1 : Int)) then (some (PV.tup [(PV.int .i64 (0 : Int)), (PV.bool false)])) else (J_val_Div_1_1 a0 a1)) else (J_val_Div_1_1 a0 a1))) := go (by kernel_rfl) (by kernel_rfl) T140 (by kernel_rfl)
noncomputable def jF141 : Jn PV := (Classical.choose (exT fi141 (fin cfg fi141))).1
noncomputable def lF141 : Ln PV := (Classical.choose (exT fi141 (fin cfg fi141))).2
theorem T141 : Tied cfg W fi141 (fin cfg fi141) jF141 lF141 := Classical.choose_spec (exT fi141 (fin cfg fi141))
theorem e_val_odd (a0 : List PV) : wc W n_val_odd [(PV.slice 3 a0)] =
  (((wc W n_val_kind [(PV.int .i64 (2 : Int))])).bind (fun v1 => (((wc W n_val_some_api_Val [(PV.slice 3 a0), v1])).bind (fun v2 => (c_b v2 (fun v3 => (bif v3 then (((wc W n_val_bad [])).bind (fun v4 => (c_g_i64_i64 v4 (fun v5 v6 => (some (PV.tup [(PV.agg [(PV.int .i64 v5), (PV.int .i64 v6)]), (PV.bool true)])))))) else (((wc W n_val_kind [(PV.int .i64 (1 : Int))])).bind (fun v7 => (((wc W n_val_some_api_Val [(PV.slice 3 a0), v7])).bind (fun v8 => (c_b v8 (fun v9 => (bif v9 then (((wc W n_val_null [])).bind (fun v10 => (c_g_i64_i64 v10 (fun v11 v12 => (some (PV.tup [(PV.agg [(PV.int .i64 v11), (PV.int .i64 v12)]), (PV.bool true)])))))) else (some (PV.tup [(PV.agg [(PV.int .i64 (0 : Int)), (PV.int .i64 (0 : Int))]), (PV.bool false)])))))))))))))))) := go (by kernel_rfl) (by kernel_rfl) T141 (by kernel_rfl)
noncomputable def jF142 : Jn PV := (Classical.choose (exT fi142 (fin cfg fi142))).1
noncomputable def lF142 : Ln PV := (Classical.choose (exT fi142 (fin cfg fi142))).2
theorem T142 : Tied cfg W fi142 (fin cfg fi142) jF142 lF142 := Classical.choose_spec (exT fi142 (fin cfg fi142))
theorem e_val_of (a0 : Bool) : wc W n_val_of [(PV.bool a0)] =
  (bif a0 then (((wc W n_val_Of [(PV.int .i64 (1 : Int))])).bind (fun v1 => (c_g_i64_i64 v1 (fun v2 v3 => (some (PV.agg [(PV.int .i64 v2), (PV.int .i64 v3)])))))) else (((wc W n_val_Of [(PV.int .i64 (0 : Int))])).bind (fun v4 => (c_g_i64_i64 v4 (fun v5 v6 => (some (PV.agg [(PV.int .i64 v5), (PV.int .i64 v6)]))))))) := go (by kernel_rfl) (by kernel_rfl) T142 (by kernel_rfl)
noncomputable def jF143 : Jn PV := (Classical.choose (exT fi143 (fin cfg fi143))).1
noncomputable def lF143 : Ln PV := (Classical.choose (exT fi143 (fin cfg fi143))).2
theorem T143 : Tied cfg W fi143 (fin cfg fi143) jF143 lF143 := Classical.choose_spec (exT fi143 (fin cfg fi143))
theorem e_val_three (a0 : List PV) (a1 : PV) (a2_0 : Int) (a2_1 : Int) (a3_0 : Int) (a3_1 : Int) : wc W n_val_three [(PV.slice 3 a0), a1, (PV.agg [(PV.int .i64 a2_0), (PV.int .i64 a2_1)]), (PV.agg [(PV.int .i64 a3_0), (PV.int .i64 a3_1)])] =
  (((wc W n_val_some_api_Val [(PV.slice 3 a0), a1])).bind (fun v1 => (c_b v1 (fun v2 => (bif v2 then (some (PV.agg [(PV.int .i64 a2_0), (PV.int .i64 a2_1)])) else (((wc W n_val_odd [(PV.slice 3 a0)])).bind (fun v3 => (((PV.asTup v3)).bind (fun v4 => (((v4)[0]?).bind (fun v5 => (c_g_i64_i64 v5 (fun v6 v7 => (((PV.asTup v3)).bind (fun v8 => (((v8)[1]?).bind (fun v9 => (c_b v9 (fun v10 => (bif v10 then (some (PV.agg [(PV.int .i64 v6), (PV.int .i64 v7)])) else (some (PV.agg [(PV.int .i64 a3_0), (PV.int .i64 a3_1)])))))))))))))))))))))) := go (by kernel_rfl) (by kernel_rfl) T143 (by kernel_rfl)
noncomputable def jF144 : Jn PV := (Classical.choose (exT fi144 (fin cfg fi144))).1
noncomputable def lF144 : Ln PV := (Classical.choose (exT fi144 (fin cfg fi144))).2
theorem T144 : Tied cfg W fi144 (fin cfg fi144) jF144 lF144 := Classical.choose_spec (exT fi144 (fin cfg fi144))
theorem e_val_isFalse (a0_0 : Int) (a0_1 : Int) : wc W n_val_isFalse [(PV.agg [(PV.int .i64 a0_0), (PV.int .i64 a0_1)])] =
  (((wc W n_val_Of [(PV.int .i64 (0 : Int))])).bind (fun v1 => (c_g_i64_i64 v1 (fun v2 v3 => (((((bif (a0_0 == v2) then (bif (a0_1 == v3) then (some true) else (some false)) else (some false))).bind (fun v4 => (some (PV.bool v4))))).bind (fun v5 => (c_b v5 (fun v6 => (some (PV.bool v6)))))))))) := go (by kernel_rfl) (by kernel_rfl) T144 (by kernel_rfl)
end Go.Cf

namespace Go.Cf
open Go Go.Ab
set_option linter.unusedVariables false
set_option linter.unusedSimpArgs false
structure Val where
  K : Int
  N : Int
  deriving DecidableEq
def Val.pv (v : Val) : PV := .agg [.int .i64 v.K, .int .i64 v.N]
@[simp] theorem Val.fold (v : Val) : PV.agg [.int .i64 v.K, .int .i64 v.N] = v.pv := rfl
@[simp] theorem Val.c_mk (v : Val) {R : Type} (f : Int → Int → Option R) : c_g_i64_i64 v.pv f = f v.K v.N := rfl
structure Def where
  Cols : Int
  Rows : Int
  deriving DecidableEq
def Def.pv (d : Def) : PV := .agg [.int .i64 d.Cols, .int .i64 d.Rows]
@[simp] theorem Def.fold (v : Def) : PV.agg [.int .i64 v.Cols, .int .i64 v.Rows] = v.pv := rfl
@[simp] theorem Def.c_mk (v : Def) {R : Type} (f : Int → Int → Option R) : c_g_i64_i64 v.pv f = f v.Cols v.Rows := rfl
@[simp] theorem Def.load0 (v : Def) : PV.load 3 v.pv 0 0 = some (.int .i64 v.Cols) := rfl
@[simp] theorem Def.load1 (v : Def) : PV.load 3 v.pv 1 0 = some (.int .i64 v.Rows) := rfl
def rowp (r : List Val) : PV := .slice 3 (r.map Val.pv)
def tabp (t : List (List Val)) : PV := .slice 0 (t.map rowp)
@[simp] theorem c_rowp (r : List Val) {R : Type} (f : List PV → Option R) : c_s3 (rowp r) f = f (r.map Val.pv) := rfl
@[simp] theorem c_tabp (t : List (List Val)) {R : Type} (f : List PV → Option R) : c_s0 (tabp t) f = f (t.map rowp) := rfl
@[simp] theorem rowp_fold (r : List Val) : PV.slice 3 (r.map Val.pv) = rowp r := rfl
@[simp] theorem tabp_fold (t : List (List Val)) : PV.slice 0 (t.map rowp) = tabp t := rfl
def intp (n : Int) : PV := .int .i64 n
@[simp] theorem c_intp (n : Int) {R : Type} (f : Int → Option R) : c_i64 (intp n) f = f n := rfl
def intsp (l : List Int) : PV := .slice 0 (l.map intp)
@[simp] theorem intsp_fold (l : List Int) : PV.slice 0 (l.map intp) = intsp l := rfl
@[simp] theorem c_intsp (l : List Int) {R : Type} (f : List PV → Option R) : c_s0 (intsp l) f = f (l.map intp) := rfl
def idxI {α : Type} (l : List α) (f : α → Bool) : Int := match l.findIdx? f with | some i => (i : Int) | none => -1
theorem idxI_any {α : Type} (l : List α) (f : α → Bool) : decide (idxI l f ≥ 0) = l.any f := by
  unfold idxI
  cases h : l.findIdx? f with
  | some i =>
    have := List.findIdx?_eq_some_iff_getElem.1 h
    obtain ⟨hi, h1, _⟩ := this
    have : l.any f = true := List.any_eq_true.2 ⟨_, List.getElem_mem hi, h1⟩
    rw [this]; simp
  | none =>
    have := List.findIdx?_eq_none_iff.1 h
    have : l.any f = false := by
      rw [Bool.eq_false_iff]
      intro e
      obtain ⟨x, hx, e⟩ := List.any_eq_true.1 e
      rw [this x hx] at e; cases e
    rw [this]; rfl
theorem loop_idx {R α : Type} (L : Int → Option R) (l : List α) (f : α → Bool) (g : Int → Option R) (hs : ∀ (i : Nat) (h : i < l.length), L (i : Int) = bif f l[i] then g (i : Int) else L ((i : Int) + 1)) (he : L (l.length : Int) = g (-1)) :
    L 0 = g (idxI l f) := by
  have : ∀ k i : Nat, i + k = l.length → L (i : Int) = g (match (l.drop i).findIdx? f with | some j => ((i + j : Nat) : Int) | none => -1) := by
    intro k
    induction k with
    | zero =>
      intro i h; simp at h; subst h
      rw [he, List.drop_of_length_le (Nat.le_refl _)]; rfl
    | succ k ih =>
      intro i h
      have hi : i < l.length := by omega
      rw [hs i hi, List.drop_eq_getElem_cons hi, List.findIdx?_cons]
      cases f l[i] with
      | true => simp
      | false =>
        simp only [cond_false, Bool.false_eq_true, if_false]
        rw [show ((i : Int) + 1) = ((i + 1 : Nat) : Int) by omega, ih (i + 1) (by omega)]
        cases (List.drop (i + 1) l).findIdx? f with
        | none => rfl
        | some j =>
          simp only [Option.map_some]
          congr 1; omega
  have h0 := this l.length 0 (by omega)
  simp only [Nat.zero_add, List.drop_zero] at h0
  exact h0
theorem w_idxDef (l : List Def) (g : Nat) (fs cs : List PV) (f : Def → Bool) (hl : l.length ≤ 9223372036854775807) (hf : ∀ x ∈ l, wc W g (fs ++ [x.pv] ++ cs) = some (.bool (f x))) :
    wc W n_slices_IndexFunc_api_Def_api_Def [.slice 3 (l.map Def.pv), .fn g fs cs] = some (.int .i64 (idxI l f)) := by
  rw [e_slices_IndexFunc_api_Def_api_Def, List.length_map]
  refine loop_idx (fun i => L_slices_IndexFunc_api_Def_api_Def_1 (l.map Def.pv) (.fn g fs cs) l.length i) l f (fun n => some (.int .i64 n)) (fun i hi => ?_) ?_
  · rw [L_slices_IndexFunc_api_Def_api_Def_1_eq]
    simp only [lt_len hi, nat_le, cond_true, Int.toNat_natCast, List.getElem?_map, List.getElem?_eq_getElem hi, Option.map_some, Option.bind_some, Def.c_mk, asFn_mk, Def.fold]
    rw [hf _ (List.getElem_mem hi), wrap64 (by omega) (by omega)]
    simp only [Option.bind_some, c_b_mk]
  · rw [L_slices_IndexFunc_api_Def_api_Def_1_eq]; simp
theorem w_anyDef (l : List Def) (g : Nat) (fs cs : List PV) (f : Def → Bool) (hl : l.length ≤ 9223372036854775807) (hf : ∀ x ∈ l, wc W g (fs ++ [x.pv] ++ cs) = some (.bool (f x))) :
    wc W n_slices_ContainsFunc_api_Def_api_Def [.slice 3 (l.map Def.pv), .fn g fs cs] = some (.bool (l.any f)) := by
  rw [e_slices_ContainsFunc_api_Def_api_Def, w_idxDef l g fs cs f hl hf]
  simp [← idxI_any]
theorem w_idxVal (l : List Val) (g : Nat) (fs cs : List PV) (f : Val → Bool) (hl : l.length ≤ 9223372036854775807) (hf : ∀ x ∈ l, wc W g (fs ++ [x.pv] ++ cs) = some (.bool (f x))) :
    wc W n_slices_IndexFunc_api_Val_api_Val_b1f6 [rowp l, .fn g fs cs] = some (.int .i64 (idxI l f)) := by
  unfold rowp
  rw [e_slices_IndexFunc_api_Val_api_Val_b1f6, List.length_map]
  refine loop_idx (fun i => L_slices_IndexFunc_api_Val_api_Val_b1f6_1 (l.map Val.pv) (.fn g fs cs) l.length i) l f (fun n => some (.int .i64 n)) (fun i hi => ?_) ?_
  · rw [L_slices_IndexFunc_api_Val_api_Val_b1f6_1_eq]
    simp only [lt_len hi, nat_le, cond_true, Int.toNat_natCast, List.getElem?_map, List.getElem?_eq_getElem hi, Option.map_some, Option.bind_some, Val.c_mk, asFn_mk, Val.fold]
    rw [hf _ (List.getElem_mem hi), wrap64 (by omega) (by omega)]
    simp only [Option.bind_some, c_b_mk]
  · rw [L_slices_IndexFunc_api_Val_api_Val_b1f6_1_eq]; simp
theorem w_anyVal (l : List Val) (g : Nat) (fs cs : List PV) (f : Val → Bool) (hl : l.length ≤ 9223372036854775807) (hf : ∀ x ∈ l, wc W g (fs ++ [x.pv] ++ cs) = some (.bool (f x))) :
    wc W n_slices_ContainsFunc_api_Val_api_Val_c5fc [rowp l, .fn g fs cs] = some (.bool (l.any f)) := by
  have h := e_slices_ContainsFunc_api_Val_api_Val_c5fc (l.map Val.pv) (.fn g fs cs)
  rw [rowp_fold] at h
  rw [h, w_idxVal l g fs cs f hl hf]
  simp [← idxI_any]
def mayV (v : Val) : Bool := decide (v.K = 0) || ((decide (v.K = 1) || decide (v.K = 2)) && decide (v.N = 0))
theorem w_val_May (v : Val) : wc W n_val_May [v.pv] = some (.bool (mayV v)) := by
  have h := e_val_May v.K v.N
  rw [Val.fold] at h
  rw [h]
  unfold mayV
  by_cases h0 : v.K = 0
  · rw [h0]; simp
  · by_cases h1 : v.K = 1
    · rw [h1]; simp [BEq.beq]
    · by_cases h2 : v.K = 2
      · rw [h2]; simp [BEq.beq]
      · by_cases a : v.K ≥ 0
        · rw [decide_eq_true a, decide_eq_false (show ¬ v.K < 3 by omega)]; simp [h0, h1, h2]
        · rw [decide_eq_false a]; simp [h0, h1, h2]
theorem wr_val_May (v : Val) : wc W n_roadbookref01_May [v.pv] = some (.bool (mayV v)) := by
  have h := e_roadbookref01_May v.K v.N
  rw [Val.fold] at h
  rw [h]
  unfold mayV
  by_cases h0 : v.K = 0
  · rw [h0]; simp
  · rw [beq_f h0, decide_eq_false h0]
    by_cases h1 : v.K = 1
    · rw [h1]; simp [BEq.beq]
    · rw [beq_f h1, decide_eq_false h1]
      by_cases h2 : v.K = 2
      · rw [h2]; simp [BEq.beq]
      · rw [beq_f h2, decide_eq_false h2]; rfl
end Go.Cf

namespace Go.Cf
open Go Go.Ab
set_option linter.unusedVariables false
set_option linter.unusedSimpArgs false
def catp (T : List Def) : PV := .agg [.slice 3 (T.map Def.pv)]
def datap (D : List (List (List Val))) : PV := .agg [.slice 0 (D.map tabp)]
def bagp (c : List Int) (r : List (List Val)) : PV := .agg [intsp c, tabp r]
@[simp] theorem catp_fold (T : List Def) : PV.agg [.slice 3 (T.map Def.pv)] = catp T := rfl
@[simp] theorem datap_fold (D : List (List (List Val))) : PV.agg [.slice 0 (D.map tabp)] = datap D := rfl
@[simp] theorem bagp_fold (c : List Int) (r : List (List Val)) : PV.agg [intsp c, tabp r] = bagp c r := rfl
@[simp] theorem c_catp (T : List Def) {R : Type} (f : List PV → Option R) : c_g_s3 (catp T) f = f (T.map Def.pv) := rfl
@[simp] theorem c_datap (D : List (List (List Val))) {R : Type} (f : List PV → Option R) : c_g_s0 (datap D) f = f (D.map tabp) := rfl
@[simp] theorem c_bagp (c : List Int) (r : List (List Val)) {R : Type} (f : List PV → List PV → Option R) : c_g_s0_s0 (bagp c r) f = f (c.map intp) (r.map rowp) := rfl
theorem w_in (n a b : Int) : wc W n_data_in [.int .i64 n, .int .i64 a, .int .i64 b] = some (.bool (decide (a ≤ n) && decide (n ≤ b))) := by
  rw [e_data_in]
  have : decide (n ≥ a) = decide (a ≤ n) := rfl
  rw [this]
  cases decide (a ≤ n) <;> rfl
def oneD (d : Def) : Bool := (decide (1 ≤ d.Cols) && decide (d.Cols ≤ 4)) && (decide (1 ≤ d.Rows) && decide (d.Rows ≤ 1000000))
theorem w_one (d : Def) : wc W n_data_one [d.pv] = some (.bool (oneD d)) := by
  have h := e_data_one d.Cols d.Rows
  rw [Def.fold] at h
  rw [h]
  simp only [w_in, Option.bind_some, c_b_mk]
  unfold oneD
  by_cases h0 : d.Cols = 0
  · rw [h0]
    by_cases h1 : d.Rows = 0
    · rw [h1]; rfl
    · rw [beq_f h1]; rfl
  · rw [beq_f h0]
    simp only [cond_false, Option.bind_some, c_b_mk, Bool.not_false, cond_true]
    cases (decide (1 ≤ d.Cols) && decide (d.Cols ≤ 4)) <;> simp
def mayC (T : List Def) : Bool := (decide (1 ≤ (T.length : Int)) && decide ((T.length : Int) ≤ 4)) && T.all oneD
theorem any_not {α : Type} (l : List α) (f : α → Bool) : (!l.any fun x => !f x) = l.all f := by
  induction l with
  | nil => rfl
  | cons a l ih => simp only [List.any_cons, List.all_cons, Bool.not_or, Bool.not_not, ih]
theorem w_May1 (d : Def) : wc W n_data_May_1 [d.pv] = some (.bool (!oneD d)) := by
  have h := e_data_May_1 d.Cols d.Rows
  rw [Def.fold] at h
  rw [h, w_one]; rfl
theorem w_data_May (T : List Def) (hl : T.length ≤ 9223372036854775807) : wc W n_data_May [catp T] = some (.bool (mayC T)) := by
  have h := e_data_May (T.map Def.pv)
  rw [catp_fold] at h
  rw [h, w_in, List.length_map]
  simp only [Option.bind_some, c_b_mk]
  rw [w_anyDef T n_data_May_1 [] [] (fun d => !oneD d) hl (fun x _ => w_May1 x)]
  simp only [Option.bind_some, c_b_mk, any_not]
  unfold mayC
  cases (decide (1 ≤ (T.length : Int)) && decide ((T.length : Int) ≤ 4)) <;> rfl
theorem wr_data_May (T : List Def) (hl : T.length ≤ 9223372036854775807) : wc W n_roadbookref04_May [catp T] = some (.bool (mayC T)) := by
  have h := e_roadbookref04_May (T.map Def.pv)
  rw [catp_fold] at h
  rw [h]
  rw [loop_all (fun i => L_roadbookref04_May_1 (T.map Def.pv) i) T.length (fun i => (T[i]?).all oneD) (some (.bool false)) (some (.bool (decide (1 ≤ (T.length : Int)) && decide ((T.length : Int) ≤ 4)))) ?_ ?_, all_get]
  · unfold mayC
    cases T.all oneD <;> simp
  · intro i hi
    rw [L_roadbookref04_May_1_eq]
    simp only [List.length_map, lt_len hi, nat_le, cond_true, Int.toNat_natCast, List.getElem?_map, List.getElem?_eq_getElem hi, Option.map_some, Option.bind_some, Def.load0, Def.load1, c_i64_mk, Option.all_some]
    rw [wrap64 (by omega) (by omega)]
    unfold oneD
    by_cases a : T[i].Cols < 1
    · rw [decide_eq_true a, decide_eq_false (show ¬ 1 ≤ T[i].Cols by omega)]; rfl
    · rw [decide_eq_false a, decide_eq_true (show 1 ≤ T[i].Cols by omega)]
      by_cases b : T[i].Cols > 4
      · rw [decide_eq_true b, decide_eq_false (show ¬ T[i].Cols ≤ 4 by omega)]; rfl
      · rw [decide_eq_false b, decide_eq_true (show T[i].Cols ≤ 4 by omega)]
        by_cases e : T[i].Rows < 1
        · rw [decide_eq_true e, decide_eq_false (show ¬ 1 ≤ T[i].Rows by omega)]; rfl
        · rw [decide_eq_false e, decide_eq_true (show 1 ≤ T[i].Rows by omega)]
          by_cases g : T[i].Rows > 1000000
          · rw [decide_eq_true g, decide_eq_false (show ¬ T[i].Rows ≤ 1000000 by omega)]; rfl
          · rw [decide_eq_false g, decide_eq_true (show T[i].Rows ≤ 1000000 by omega)]; rfl
  · rw [L_roadbookref04_May_1_eq]
    simp only [List.length_map, ge_len, cond_false]
    have : decide ((T.length : Int) ≥ 1) = decide (1 ≤ (T.length : Int)) := rfl
    rw [this]
    cases decide (1 ≤ (T.length : Int)) <;> rfl
def rowOk (r : List Val) (n : Int) : Bool := decide ((r.length : Int) = n) && r.all mayV
theorem w_row1 (v : Val) : wc W n_data_row_1 [v.pv] = some (.bool (!mayV v)) := by
  have h := e_data_row_1 v.K v.N
  rw [Val.fold] at h
  rw [h, w_val_May]; rfl
theorem w_row (r : List Val) (n : Int) (hl : r.length ≤ 9223372036854775807) : wc W n_data_row [rowp r, .int .i64 n] = some (.bool (rowOk r n)) := by
  have h := e_data_row (r.map Val.pv) n
  rw [rowp_fold] at h
  rw [h, List.length_map, w_anyVal r n_data_row_1 [] [] (fun v => !mayV v) hl (fun x _ => w_row1 x)]
  simp only [Option.bind_some, c_b_mk, any_not]
  unfold rowOk
  by_cases e : (r.length : Int) = n
  · rw [beq_t e, decide_eq_true e]; simp
  · rw [beq_f e, decide_eq_false e]; simp
def colsAt (T : List Def) (i : Nat) : Int := (T[i]?.map Def.Cols).getD 0
def tabOk (T : List Def) (i : Nat) (t : List (List Val)) : Bool := decide (t.length ≤ 8) && t.all fun r => rowOk r (colsAt T i)
def fits (T : List Def) (D : List (List (List Val))) : Bool := mayC T && decide (D.length = T.length) && (List.range D.length).all fun i => (D[i]?).all (tabOk T i)
theorem w_Fits1 (T : List Def) (r : List Val) (i : Nat) (hi : i < T.length) (hl : r.length ≤ 9223372036854775807) :
    W n_data_Fits_1 false [.pv (rowp r), .pv (.imm 2 (catp T) 0), .own 0 0] [.var false 0 (.pv (.int .i64 (i : Int)))] = some (.pv (.bool (!rowOk r (colsAt T i))), [.var false 0 (.pv (.int .i64 (i : Int)))]) := by
  have h := o_data_Fits_1_o1_1 (r.map Val.pv) (T.map Def.pv) (i : Int)
  rw [rowp_fold, catp_fold] at h
  rw [h]
  simp only [nat_le, cond_true, Int.toNat_natCast, List.getElem?_map, List.getElem?_eq_getElem hi, Option.map_some, Option.bind_some, Def.load0, c_i64_mk, w_row _ _ hl, c_b_mk, colsAt, Option.getD_some]
theorem w_anyRow (T : List Def) (t : List (List Val)) (i : Nat) (hi : i < T.length) (ht : t.length ≤ 9223372036854775807) (hl : ∀ r ∈ t, r.length ≤ 9223372036854775807) :
    W n_slices_ContainsFunc_api_Val_api_Val_3020 false [.pv (tabp t), .fnv n_data_Fits_1 [] [.pv (.imm 2 (catp T) 0), .own 0 0]] [.var false 0 (.pv (.int .i64 (i : Int)))] =
      some (.pv (.bool (!t.all fun r => rowOk r (colsAt T i))), [.var false 0 (.pv (.int .i64 (i : Int)))]) := by
  have h := o_slices_ContainsFunc_api_Val_api_Val_3020_o1_1 (t.map rowp) (T.map Def.pv) (i : Int)
  have h2 := o_slices_IndexFunc_api_Val_api_Val_fa1b_o1_1 (t.map rowp) (T.map Def.pv) (i : Int)
  rw [tabp_fold, catp_fold] at h h2
  rw [h, h2, List.length_map]
  rw [loop_idx (fun n => L_slices_IndexFunc_api_Val_api_Val_fa1b_o1_1 (t.map rowp) (T.map Def.pv) t.length n (i : Int)) t (fun r => !rowOk r (colsAt T i)) (fun n => some (.pv (.int .i64 n), [.var false 0 (.pv (.int .i64 (i : Int)))])) ?_ ?_]
  · simp only [Option.bind_some, k_5b106d_mk, c_i64_mk, idxI_any]
    rw [← any_not t, Bool.not_not]
  · intro j hj
    rw [L_slices_IndexFunc_api_Val_api_Val_fa1b_o1_1_eq]
    simp only [lt_len hj, nat_le, cond_true, Int.toNat_natCast, List.getElem?_map, List.getElem?_eq_getElem hj, Option.map_some, Option.bind_some, c_rowp, rowp_fold, catp_fold, w_Fits1 T _ i hi (hl _ (List.getElem_mem hj)), k_5b106d_mk, c_b_mk]
    rw [wrap64 (by omega) (by omega)]
  · rw [L_slices_IndexFunc_api_Val_api_Val_fa1b_o1_1_eq]; simp
structure DOk (D : List (List (List Val))) : Prop where
  len : D.length ≤ 9223372036854775807
  tab : ∀ t ∈ D, t.length ≤ 9223372036854775807
  row : ∀ t ∈ D, ∀ r ∈ t, r.length ≤ 9223372036854775807
theorem w_Fits (T : List Def) (D : List (List (List Val))) (hT : T.length ≤ 9223372036854775807) (hD : DOk D) : wc W n_data_Fits [catp T, datap D] = some (.bool (fits T D)) := by
  have h := e_data_Fits (T.map Def.pv) (D.map tabp)
  rw [catp_fold, datap_fold] at h
  rw [h, w_data_May T hT]
  simp only [Option.bind_some, c_b_mk, List.length_map]
  unfold fits
  cases mayC T with
  | false => rfl
  | true =>
    simp only [Bool.not_true, cond_false, Bool.true_and]
    by_cases hl : D.length = T.length
    · rw [bne_f (by rw [hl]), decide_eq_true hl, cond_false, J_data_Fits_1_eq, Bool.true_and, List.length_map]
      rw [loop_all (fun i => L_data_Fits_2 (T.map Def.pv) (D.map tabp) D.length i) D.length (fun i => (D[i]?).all (tabOk T i)) (some (.bool false)) (some (.bool true)) ?_ ?_]
      · cases (List.range D.length).all fun i => (D[i]?).all (tabOk T i) <;> rfl
      · intro i hi
        have hiT : i < T.length := by omega
        have hm := List.getElem_mem hi
        have := hD.len
        rw [L_data_Fits_2_eq]
        simp only [lt_len hi, nat_le, cond_true, Int.toNat_natCast, List.getElem?_map, List.getElem?_eq_getElem hi, Option.map_some, Option.bind_some, c_tabp, List.length_map, Option.all_some, tabp_fold, catp_fold, w_anyRow T D[i] i hiT (hD.tab _ hm) (hD.row _ hm), k_5b106d_mk, c_b_mk]
        rw [wrap64 (by omega) (by omega)]
        unfold tabOk
        by_cases h8 : D[i].length ≤ 8
        · rw [decide_eq_true h8, decide_eq_false (show ¬ ((D[i].length : Nat) : Int) > 8 by omega)]
          cases D[i].all fun r => rowOk r (colsAt T i) <;> rfl
        · rw [decide_eq_false h8, decide_eq_true (show ((D[i].length : Nat) : Int) > 8 by omega)]
          rfl
      · rw [L_data_Fits_2_eq]; simp
    · rw [bne_t (by omega), decide_eq_false hl]; rfl
theorem wr_Fits4 (T : List Def) (D : List (List (List Val))) (i j : Nat) (hi : i < D.length) (hj : j < D[i].length) (hl : D[i][j].length ≤ 9223372036854775807) :
    L_roadbookref04_Fits_4 (T.map Def.pv) (D.map tabp) (i : Int) (j : Int) 0 = bif D[i][j].all mayV then L_roadbookref04_Fits_3 (T.map Def.pv) (D.map tabp) (i : Int) (IntKind.wrap .i64 ((j : Int) + 1)) else some (.bool false) := by
  rw [loop_all (fun k => L_roadbookref04_Fits_4 (T.map Def.pv) (D.map tabp) (i : Int) (j : Int) k) D[i][j].length (fun k => (D[i][j][k]?).all mayV) (some (.bool false)) (L_roadbookref04_Fits_3 (T.map Def.pv) (D.map tabp) (i : Int) (IntKind.wrap .i64 ((j : Int) + 1))) ?_ ?_, all_get]
  · intro k hk
    rw [L_roadbookref04_Fits_4_eq]
    simp only [nat_le, cond_true, Int.toNat_natCast, List.getElem?_map, List.getElem?_eq_getElem hi, List.getElem?_eq_getElem hj, List.getElem?_eq_getElem hk, Option.map_some, Option.bind_some, c_tabp, c_rowp, List.length_map, lt_len hk, Val.c_mk, Val.fold, wr_val_May, c_b_mk, Option.all_some]
    rw [wrap64 (n := (k : Int) + 1) (by omega) (by omega)]
    cases mayV D[i][j][k] <;> rfl
  · rw [L_roadbookref04_Fits_4_eq]
    simp only [nat_le, cond_true, Int.toNat_natCast, List.getElem?_map, List.getElem?_eq_getElem hi, List.getElem?_eq_getElem hj, Option.map_some, Option.bind_some, c_tabp, c_rowp, List.length_map, ge_len, cond_false]
theorem wr_Fits3 (T : List Def) (D : List (List (List Val))) (i : Nat) (hi : i < D.length) (hiT : i < T.length) (ht : D[i].length ≤ 9223372036854775807) (hl : ∀ r ∈ D[i], r.length ≤ 9223372036854775807) :
    L_roadbookref04_Fits_3 (T.map Def.pv) (D.map tabp) (i : Int) 0 = bif D[i].all (fun r => rowOk r (colsAt T i)) then L_roadbookref04_Fits_2 (T.map Def.pv) (D.map tabp) (IntKind.wrap .i64 ((i : Int) + 1)) else some (.bool false) := by
  rw [loop_all (fun j => L_roadbookref04_Fits_3 (T.map Def.pv) (D.map tabp) (i : Int) j) D[i].length (fun j => (D[i][j]?).all fun r => rowOk r (colsAt T i)) (some (.bool false)) (L_roadbookref04_Fits_2 (T.map Def.pv) (D.map tabp) (IntKind.wrap .i64 ((i : Int) + 1))) ?_ ?_, all_get]
  · intro j hj
    rw [L_roadbookref04_Fits_3_eq]
    simp only [nat_le, cond_true, Int.toNat_natCast, List.getElem?_map, List.getElem?_eq_getElem hi, List.getElem?_eq_getElem hiT, List.getElem?_eq_getElem hj, Option.map_some, Option.bind_some, c_tabp, c_rowp, List.length_map, lt_len hj, Def.load0, c_i64_mk, Option.all_some]
    rw [wr_Fits4 T D i j hi hj (hl _ (List.getElem_mem hj)), wrap64 (n := (j : Int) + 1) (by omega) (by omega)]
    unfold rowOk colsAt
    rw [List.getElem?_eq_getElem hiT]
    simp only [Option.map_some, Option.getD_some]
    by_cases e : (D[i][j].length : Int) = T[i].Cols
    · rw [bne_f e, decide_eq_true e]; simp
    · rw [bne_t e, decide_eq_false e]; simp
  · rw [L_roadbookref04_Fits_3_eq]
    simp only [nat_le, cond_true, Int.toNat_natCast, List.getElem?_map, List.getElem?_eq_getElem hi, Option.map_some, Option.bind_some, c_tabp, List.length_map, ge_len, cond_false]
theorem wr_Fits (T : List Def) (D : List (List (List Val))) (hT : T.length ≤ 9223372036854775807) (hD : DOk D) : wc W n_roadbookref04_Fits [catp T, datap D] = some (.bool (fits T D)) := by
  have h := e_roadbookref04_Fits (T.map Def.pv) (D.map tabp)
  rw [catp_fold, datap_fold] at h
  rw [h, wr_data_May T hT]
  simp only [Option.bind_some, c_b_mk, List.length_map]
  unfold fits
  cases mayC T with
  | false => rfl
  | true =>
    simp only [Bool.not_true, cond_false, Bool.true_and]
    by_cases hl : D.length = T.length
    · rw [bne_f (by rw [hl]), decide_eq_true hl, cond_false, J_roadbookref04_Fits_1_eq, Bool.true_and]
      rw [loop_all (fun i => L_roadbookref04_Fits_2 (T.map Def.pv) (D.map tabp) i) D.length (fun i => (D[i]?).all (tabOk T i)) (some (.bool false)) (some (.bool true)) ?_ ?_]
      · cases (List.range D.length).all fun i => (D[i]?).all (tabOk T i) <;> rfl
      · intro i hi
        have hiT : i < T.length := by omega
        have hm := List.getElem_mem hi
        have := hD.len
        rw [L_roadbookref04_Fits_2_eq]
        simp only [lt_len hi, nat_le, cond_true, Int.toNat_natCast, List.getElem?_map, List.getElem?_eq_getElem hi, Option.map_some, Option.bind_some, c_tabp, List.length_map, Option.all_some]
        rw [wr_Fits3 T D i hi hiT (hD.tab _ hm) (hD.row _ hm), wrap64 (by omega) (by omega)]
        unfold tabOk
        by_cases h8 : D[i].length ≤ 8
        · rw [decide_eq_true h8, decide_eq_false (show ¬ ((D[i].length : Nat) : Int) > 8 by omega)]
          simp
        · rw [decide_eq_false h8, decide_eq_true (show ((D[i].length : Nat) : Int) > 8 by omega)]
          simp
      · rw [L_roadbookref04_Fits_2_eq]; simp
    · rw [bne_t (by omega), decide_eq_false hl]; rfl
end Go.Cf

namespace Go.Cf
open Go Go.Ab
set_option linter.unusedVariables false
def Val.Ok (v : Val) : Prop := I64 v.K ∧ I64 v.N
theorem len63 {n : Nat} (h : n ≤ maxLen) : n ≤ 9223372036854775807 := h
theorem ty_api_Val {p : PV} (h : Typed cfg t_api_Val p) : ∃ v : Val, p = v.pv ∧ v.Ok := by
  obtain ⟨ps, rfl, hl⟩ := h.struct_inv (fs := [(t_int, 0), (t_int, 1)]) (by kernel_rfl)
  obtain ⟨x, qs, rfl, hx, hl⟩ := typedL_cons hl
  obtain ⟨y, rfl, hy⟩ := typedL1 hl
  obtain ⟨a, rfl, ha⟩ := ty_int hx
  obtain ⟨b, rfl, hb⟩ := ty_int hy
  exact ⟨⟨a, b⟩, rfl, ha, hb⟩
theorem ty_api_Def {p : PV} (h : Typed cfg t_api_Def p) : ∃ v : Def, p = v.pv ∧ True := by
  obtain ⟨ps, rfl, hl⟩ := h.struct_inv (fs := [(t_int, 0), (t_int, 1)]) (by kernel_rfl)
  obtain ⟨x, qs, rfl, hx, hl⟩ := typedL_cons hl
  obtain ⟨y, rfl, hy⟩ := typedL1 hl
  obtain ⟨a, rfl, ha⟩ := ty_int hx
  obtain ⟨b, rfl, hb⟩ := ty_int hy
  exact ⟨⟨a, b⟩, rfl, trivial⟩
def RowOk (r : List Val) : Prop := r.length ≤ 9223372036854775807 ∧ ∀ v ∈ r, v.Ok
theorem ty_s_api_Val {p : PV} (h : Typed cfg t_s_api_Val p) : ∃ r : List Val, p = rowp r ∧ RowOk r := by
  obtain ⟨xs, rfl, hl, hx⟩ := h.slice_inv (e := t_api_Val) (by kernel_rfl)
  obtain ⟨r, rfl, hr⟩ := list_of (Q := Val.Ok) (f := Val.pv) (xs := xs) (fun x h => ty_api_Val (hx x h))
  exact ⟨r, rfl, len63 (by simpa using hl), hr⟩
def TabOk (t : List (List Val)) : Prop := t.length ≤ 9223372036854775807 ∧ ∀ r ∈ t, RowOk r
theorem ty_s_s_api_Val {p : PV} (h : Typed cfg t_s_s_api_Val p) : ∃ t : List (List Val), p = tabp t ∧ TabOk t := by
  obtain ⟨xs, rfl, hl, hx⟩ := h.slice_inv (e := t_s_api_Val) (by kernel_rfl)
  obtain ⟨r, rfl, hr⟩ := list_of (Q := RowOk) (f := rowp) (xs := xs) (fun x h => ty_s_api_Val (hx x h))
  exact ⟨r, rfl, len63 (by simpa using hl), hr⟩
theorem ty_api_Cat {p : PV} (h : Typed cfg t_api_Cat p) : ∃ T : List Def, p = catp T ∧ T.length ≤ 9223372036854775807 := by
  obtain ⟨ps, rfl, hl⟩ := h.struct_inv (fs := [(t_s_api_Def, 0)]) (by kernel_rfl)
  obtain ⟨y, rfl, hy⟩ := typedL1 hl
  obtain ⟨xs, rfl, hlen, hx⟩ := hy.slice_inv (e := t_api_Def) (by kernel_rfl)
  obtain ⟨T, rfl, _⟩ := list_of (Q := fun _ => True) (f := Def.pv) (xs := xs) (fun x h => ty_api_Def (hx x h))
  exact ⟨T, rfl, len63 (by simpa using hlen)⟩
theorem ty_api_Data {p : PV} (h : Typed cfg t_api_Data p) : ∃ D : List (List (List Val)), p = datap D ∧ DOk D := by
  obtain ⟨ps, rfl, hl⟩ := h.struct_inv (fs := [(t_s_s_s_api_Val, 0)]) (by kernel_rfl)
  obtain ⟨y, rfl, hy⟩ := typedL1 hl
  obtain ⟨xs, rfl, hlen, hx⟩ := hy.slice_inv (e := t_s_s_api_Val) (by kernel_rfl)
  obtain ⟨D, rfl, hD⟩ := list_of (Q := TabOk) (f := tabp) (xs := xs) (fun x h => ty_s_s_api_Val (hx x h))
  exact ⟨D, rfl, len63 (by simpa using hlen), fun t ht => (hD t ht).1, fun t ht r hr => ((hD t ht).2 r hr).1⟩
theorem ty_s_int {p : PV} (h : Typed cfg t_s_int p) : ∃ l : List Int, p = intsp l ∧ l.length ≤ 9223372036854775807 ∧ ∀ n ∈ l, I64 n := by
  obtain ⟨xs, rfl, hlen, hx⟩ := h.slice_inv (e := t_int) (by kernel_rfl)
  obtain ⟨l, rfl, hl⟩ := list_of (Q := I64) (f := intp) (xs := xs) (fun x h => ty_int (hx x h))
  exact ⟨l, rfl, len63 (by simpa using hlen), hl⟩
end Go.Cf

namespace Go.Cf
open Go Go.Ab
set_option linter.unusedVariables false
set_option linter.unusedSimpArgs false
def colI (occ col : Int) : Int := bif (decide (0 ≤ occ) && decide (occ ≤ 3)) && (decide (0 ≤ col) && decide (col ≤ 3)) then 4 * occ + col else -1
theorem w_Col (o c : Int) : wc W n_data_Col [.int .i64 o, .int .i64 c] = some (.int .i64 (colI o c)) := by
  rw [e_data_Col]
  simp only [w_in, Option.bind_some, c_b_mk, colI]
  by_cases h : 0 ≤ o ∧ o ≤ 3
  · rw [decide_eq_true h.1, decide_eq_true h.2]
    by_cases h2 : 0 ≤ c ∧ c ≤ 3
    · rw [decide_eq_true h2.1, decide_eq_true h2.2]
      simp only [Bool.and_self, Bool.not_true, cond_false, cond_true, J_data_Col_1_eq]
      rw [wrap64 (n := 4 * o) (by omega) (by omega), wrap64 (by omega) (by omega)]
    · have : (decide (0 ≤ c) && decide (c ≤ 3)) = false := by rw [← Bool.decide_and]; exact decide_eq_false h2
      rw [this]; rfl
  · have : (decide (0 ≤ o) && decide (o ≤ 3)) = false := by rw [← Bool.decide_and]; exact decide_eq_false h
    rw [this]; rfl
theorem wr_Col (o c : Int) : wc W n_roadbookref04_Col [.int .i64 o, .int .i64 c] = some (.int .i64 (colI o c)) := by
  rw [e_roadbookref04_Col, colI]
  by_cases h1 : o < 0
  · rw [decide_eq_true h1, decide_eq_false (show ¬ 0 ≤ o by omega)]; rfl
  rw [decide_eq_false h1, decide_eq_true (show 0 ≤ o by omega)]
  by_cases h2 : o > 3
  · rw [decide_eq_true h2, decide_eq_false (show ¬ o ≤ 3 by omega)]; rfl
  rw [decide_eq_false h2, decide_eq_true (show o ≤ 3 by omega)]
  by_cases h3 : c < 0
  · rw [decide_eq_true h3, decide_eq_false (show ¬ 0 ≤ c by omega)]; rfl
  rw [decide_eq_false h3, decide_eq_true (show 0 ≤ c by omega)]
  by_cases h4 : c > 3
  · rw [decide_eq_true h4, decide_eq_false (show ¬ c ≤ 3 by omega)]; rfl
  rw [decide_eq_false h4, decide_eq_true (show c ≤ 3 by omega)]
  simp only [Bool.and_self, cond_false, cond_true, J_roadbookref04_Col_1_eq]
  rw [wrap64 (n := 4 * o) (by omega) (by omega), wrap64 (by omega) (by omega)]
def splitP (id : Int) : PV := bif decide (0 ≤ id) && decide (id ≤ 15) then .tup [.int .i64 (id / 4), .int .i64 (id % 4), .bool true] else .tup [.int .i64 0, .int .i64 0, .bool false]
theorem div4 {n : Int} (h : 0 ≤ n) (h2 : n ≤ 15) : IntKind.wrap .i64 (Int.tdiv n 4) = n / 4 ∧ Int.tmod n 4 = n % 4 := by
  rw [Int.tdiv_eq_ediv_of_nonneg h, Int.tmod_eq_emod_of_nonneg h, wrap64 (by omega) (by omega)]
  exact ⟨rfl, rfl⟩
theorem w_Split (n : Int) : wc W n_data_Split [.int .i64 n] = some (splitP n) := by
  rw [e_data_Split, w_in]
  simp only [Option.bind_some, c_b_mk, splitP]
  by_cases h : 0 ≤ n ∧ n ≤ 15
  · rw [decide_eq_true h.1, decide_eq_true h.2, (div4 h.1 h.2).1, (div4 h.1 h.2).2]; rfl
  · have : (decide (0 ≤ n) && decide (n ≤ 15)) = false := by rw [← Bool.decide_and]; exact decide_eq_false h
    rw [this]; rfl
theorem wr_Split (n : Int) : wc W n_roadbookref04_Split [.int .i64 n] = some (splitP n) := by
  rw [e_roadbookref04_Split, splitP]
  by_cases h1 : n < 0
  · rw [decide_eq_true h1, decide_eq_false (show ¬ 0 ≤ n by omega)]; rfl
  rw [decide_eq_false h1, decide_eq_true (show 0 ≤ n by omega)]
  by_cases h2 : n > 15
  · rw [decide_eq_true h2, decide_eq_false (show ¬ n ≤ 15 by omega)]; rfl
  rw [decide_eq_false h2, decide_eq_true (show n ≤ 15 by omega)]
  simp only [Bool.and_self, cond_false, cond_true, J_roadbookref04_Split_1_eq, (div4 (show 0 ≤ n by omega) (show n ≤ 15 by omega)).1, (div4 (show 0 ≤ n by omega) (show n ≤ 15 by omega)).2]
def colsOf (occ : Int) (k n : Nat) : List Int := (List.range' k n).map fun i : Nat => 4 * occ + (i : Int)
theorem of_loop (o : Int) (ho : 0 ≤ o ∧ o ≤ 3) (t : Int) (D : List PV) (n : Nat) (hn : n ≤ 4) : ∀ (k i : Nat) (acc : List Int), i + k = n → acc.length ≤ i →
    L_data_Of_2 t o D (n : Int) (i : Int) (acc.map intp) = L_data_Of_2 t o D (n : Int) (n : Int) ((acc ++ colsOf o i k).map intp)
  | 0, i, acc, h, hl => by
    rw [show i = n by omega]; simp [colsOf]
  | k + 1, i, acc, h, hl => by
    have hi : i < n := by omega
    rw [L_data_Of_2_eq]
    have hc : colI o (i : Int) = 4 * o + (i : Int) := by
      unfold colI
      rw [decide_eq_true ho.1, decide_eq_true ho.2, decide_eq_true (show (0 : Int) ≤ i by omega), decide_eq_true (show (i : Int) ≤ 3 by omega)]; rfl
    simp only [lt_len hi, cond_true, w_Col, Option.bind_some, c_i64_mk, hc, List.length_map, Bool.true_and, decide_eq_true (show acc.length + 1 ≤ 4294967296 by omega)]
    rw [wrap_succ (by omega)]
    have := of_loop o ho t D n hn k (i + 1) (acc ++ [4 * o + (i : Int)]) (by omega) (by simp; omega)
    simp only [List.map_append, List.map_cons, List.map_nil] at this
    refine this.trans ?_
    rw [show colsOf o i (k + 1) = (4 * o + (i : Int)) :: colsOf o (i + 1) k from by simp [colsOf, List.range'_succ]]
    simp only [List.map_append, List.map_cons, List.append_assoc, List.cons_append, List.nil_append]
theorem some_loop (g : Nat) (fs cs : List PV) (f : List Val → Bool) (rows : List (List Val)) (C X Y : List PV) (hl : rows.length ≤ 4294967296) (hr : ∀ r ∈ rows, r.length ≤ 4294967296) (hf : ∀ r ∈ rows, wc W g (fs ++ [rowp r] ++ cs) = some (.bool (f r))) :
    ∀ (k i : Nat) (acc : List (List Val)), i + k = rows.length → acc.length ≤ i →
    L_bag_some_1 (.fn g fs cs) (rows.map rowp) (rows.length : Int) (i : Int) X Y C (acc.map rowp) = some (.agg [.slice 0 C, tabp (acc ++ (rows.drop i).filter f)])
  | 0, i, acc, h, hk => by
    rw [L_bag_some_1_eq, show i = rows.length by omega]
    simp
  | k + 1, i, acc, h, hk => by
    have hi : i < rows.length := by omega
    have hm := List.getElem_mem hi
    rw [L_bag_some_1_eq]
    have hf' := hf _ hm
    simp only [rowp] at hf'
    simp only [lt_len hi, nat_le, cond_true, Int.toNat_natCast, List.getElem?_map, List.getElem?_eq_getElem hi, Option.map_some, Option.bind_some, c_rowp, asFn_mk, hf', c_b_mk]
    rw [wrap_succ (by omega), List.drop_eq_getElem_cons hi, List.filter_cons]
    cases f rows[i] with
    | true =>
      have hx := x_slices_Clone_api_Val_api_Val (rows[i].map Val.pv) (by simpa using hr _ hm)
      simp only [cond_true, hx, Option.bind_some, c_s3_mk, List.length_map, Bool.true_and, decide_eq_true (show acc.length + 1 ≤ 4294967296 by omega), if_true]
      have := some_loop g fs cs f rows C X Y hl hr hf k (i + 1) (acc ++ [rows[i]]) (by omega) (by simp; omega)
      simp only [List.map_append, List.map_cons, List.map_nil, List.append_assoc, List.cons_append, List.nil_append] at this
      exact this
    | false =>
      simp only [cond_false, Bool.false_eq_true, if_false]
      exact some_loop g fs cs f rows C X Y hl hr hf k (i + 1) acc (by omega) (by omega)
theorem w_some (cols : List Int) (rows : List (List Val)) (g : Nat) (fs cs : List PV) (f : List Val → Bool) (hc : cols.length ≤ 4294967296) (hl : rows.length ≤ 4294967296) (hr : ∀ r ∈ rows, r.length ≤ 4294967296)
    (hf : ∀ r ∈ rows, wc W g (fs ++ [rowp r] ++ cs) = some (.bool (f r))) : wc W n_bag_some [bagp cols rows, .fn g fs cs] = some (bagp cols (rows.filter f)) := by
  have h := e_bag_some (cols.map intp) (rows.map rowp) (.fn g fs cs)
  rw [intsp_fold, tabp_fold, bagp_fold] at h
  have hx := x_slices_Clone_int_int (cols.map intp) (by simpa using hc)
  rw [intsp_fold] at hx
  rw [h, hx]
  simp only [Option.bind_some, c_intsp, List.length_map]
  have := some_loop g fs cs f rows (cols.map intp) [] [] hl hr hf rows.length 0 [] (by omega) (by simp)
  simpa using this
theorem w_Keep0 (cols : List Int) (rows : List (List Val)) (hc : cols.length ≤ 4294967296) (hl : rows.length ≤ 4294967296) (hr : ∀ r ∈ rows, r.length ≤ 4294967296) : wc W n_bag_Keep [bagp cols rows, .slice 6 []] = some (bagp cols rows) := by
  have h := e_bag_Keep (cols.map intp) (rows.map rowp) []
  rw [intsp_fold, tabp_fold, bagp_fold] at h
  rw [h]
  rw [w_some cols rows n_bag_Keep_1 [] [.imm 0 (.slice 6 []) 0, .imm 3 (bagp cols rows) 0] (fun _ => true) hc hl hr (fun r _ => by
    have h1 := e_bag_Keep_1 (r.map Val.pv) [] (cols.map intp) (rows.map rowp)
    rw [intsp_fold, tabp_fold, bagp_fold, rowp_fold] at h1
    refine h1.trans ?_
    have h2 := e_slices_ContainsFunc_api_Expr_api_Expr [] (.fn n_bag_Keep_1_1 [] [.imm 3 (bagp cols rows) 0, .imm 0 (rowp r) 0])
    have h3 := e_slices_IndexFunc_api_Expr_api_Expr [] (.fn n_bag_Keep_1_1 [] [.imm 3 (bagp cols rows) 0, .imm 0 (rowp r) 0])
    rw [L_slices_IndexFunc_api_Expr_api_Expr_1_eq] at h3
    rw [h2, h3]
    rfl)]
  have hfl : rows.filter (fun _ => true) = rows := List.filter_eq_self.2 (fun _ _ => rfl)
  rw [hfl]
  rfl
def ofT (T : List Def) (D : List (List (List Val))) (t o : Int) : Option (List Int × List (List Val)) :=
  bif fits T D && (decide (0 ≤ t) && decide (t ≤ (T.length : Int) - 1)) && (decide (0 ≤ o) && decide (o ≤ 3)) then some (colsOf o 0 (colsAt T t.toNat).toNat, D.getD t.toNat []) else none
def ofP (x : Option (List Int × List (List Val))) : PV := match x with | some b => .tup [bagp b.1 b.2, .bool true] | none => .tup [bagp [] [], .bool false]
theorem fits_tab {T : List Def} {D : List (List (List Val))} (h : fits T D = true) : D.length = T.length ∧ mayC T = true ∧ ∀ i (hi : i < D.length), tabOk T i D[i] = true := by
  unfold fits at h
  simp only [Bool.and_eq_true, decide_eq_true_eq, List.all_eq_true, List.mem_range] at h
  refine ⟨h.1.2, h.1.1, fun i hi => ?_⟩
  have := h.2 i hi
  simpa [List.getElem?_eq_getElem hi] using this
theorem mayC_cols {T : List Def} (h : mayC T = true) {i : Nat} (hi : i < T.length) : 1 ≤ colsAt T i ∧ colsAt T i ≤ 4 := by
  unfold mayC at h
  simp only [Bool.and_eq_true, List.all_eq_true] at h
  have := h.2 _ (List.getElem_mem hi)
  unfold oneD at this
  simp only [Bool.and_eq_true, decide_eq_true_eq] at this
  unfold colsAt
  rw [List.getElem?_eq_getElem hi]
  exact this.1
theorem tab_rows {T : List Def} {i : Nat} {t : List (List Val)} (h : tabOk T i t = true) (hc : colsAt T i ≤ 4) : t.length ≤ 8 ∧ ∀ r ∈ t, (r.length : Int) = colsAt T i ∧ r.length ≤ 4 ∧ r.all mayV = true := by
  unfold tabOk at h
  simp only [Bool.and_eq_true, decide_eq_true_eq, List.all_eq_true] at h
  refine ⟨h.1, fun r hr => ?_⟩
  have := h.2 r hr
  unfold rowOk at this
  simp only [Bool.and_eq_true, decide_eq_true_eq] at this
  exact ⟨this.1, by omega, this.2⟩
theorem w_Of (T : List Def) (D : List (List (List Val))) (t o : Int) (hT : T.length ≤ 9223372036854775807) (hD : DOk D) : wc W n_data_Of [catp T, datap D, .int .i64 t, .int .i64 o] = some (ofP (ofT T D t o)) := by
  have h := e_data_Of (T.map Def.pv) (D.map tabp) t o
  rw [catp_fold, datap_fold] at h
  rw [h, w_Fits T D hT hD]
  simp only [Option.bind_some, c_b_mk, List.length_map]
  unfold ofT
  have z : PV.tup [PV.agg [PV.slice 0 [], PV.slice 0 []], PV.bool false] = ofP none := rfl
  cases hf : fits T D with
  | false => rfl
  | true =>
    obtain ⟨f1, f2, f3⟩ := fits_tab hf
    have hlen : 1 ≤ T.length ∧ T.length ≤ 4 := by
      unfold mayC at f2
      simp only [Bool.and_eq_true, decide_eq_true_eq] at f2
      omega
    rw [wrap64 (by omega) (by omega), w_in]
    simp only [Bool.not_true, cond_false, Option.bind_some, c_b_mk, Bool.true_and]
    by_cases ht : 0 ≤ t ∧ t ≤ (T.length : Int) - 1
    · rw [decide_eq_true ht.1, decide_eq_true ht.2]
      simp only [Bool.and_self, Bool.not_true, cond_false, w_Col, Option.bind_some, c_i64_mk, Bool.true_and]
      by_cases ho : 0 ≤ o ∧ o ≤ 3
      · rw [decide_eq_true ho.1, decide_eq_true ho.2]
        have hc : colI o 0 = 4 * o := by
          unfold colI
          rw [decide_eq_true ho.1, decide_eq_true ho.2]
          simp
        rw [hc, beq_f (show 4 * o ≠ -1 by omega)]
        obtain ⟨m, rfl⟩ := Int.eq_ofNat_of_zero_le ht.1
        have hm : m < T.length := by omega
        have hmD : m < D.length := by omega
        obtain ⟨hc1, hc4⟩ := mayC_cols f2 hm
        obtain ⟨r8, rr⟩ := tab_rows (f3 m hmD) hc4
        obtain ⟨n, hn⟩ := Int.eq_ofNat_of_zero_le (show 0 ≤ colsAt T m by omega)
        have hcA : T[m].Cols = (n : Int) := by
          have := hn; unfold colsAt at this; rw [List.getElem?_eq_getElem hm] at this; exact this
        simp only [cond_false, J_data_Of_1_eq, nat_le, cond_true, Int.toNat_natCast, List.getElem?_map, List.getElem?_eq_getElem hm, Option.map_some, Option.bind_some, Def.load0, c_i64_mk, hcA, Bool.and_self]
        have hloop := of_loop o ho (m : Int) (D.map tabp) n (by omega) n 0 [] (by omega) (by simp)
        refine hloop.trans ?_
        rw [L_data_Of_2_eq]
        simp only [ge_len, cond_false, nat_le, cond_true, Int.toNat_natCast, List.getElem?_map, List.getElem?_eq_getElem hmD, Option.map_some, Option.bind_some, c_tabp, List.nil_append, intsp_fold, tabp_fold, bagp_fold]
        rw [w_Keep0 (colsOf o 0 n) D[m] (by simp [colsOf]; omega) (by omega) (fun r hr => by have := (rr r hr).2.1; omega)]
        simp only [hn, Int.toNat_natCast, List.getD_eq_getElem?_getD, List.getElem?_eq_getElem hmD, Option.getD_some]
        rfl
      · have hb : (decide (0 ≤ o) && decide (o ≤ 3)) = false := by rw [← Bool.decide_and]; exact decide_eq_false ho
        have hc : colI o 0 = -1 := by unfold colI; rw [hb]; rfl
        rw [hc, hb]; rfl
    · have hb : (decide (0 ≤ t) && decide (t ≤ (T.length : Int) - 1)) = false := by rw [← Bool.decide_and]; exact decide_eq_false ht
      rw [hb]; rfl
theorem rof_loop (o : Int) (ho : 0 ≤ o ∧ o ≤ 3) (T : List Def) (m : Nat) (hm : m < T.length) (n : Nat) (hn : T[m].Cols = (n : Int)) (hn4 : n ≤ 4) (X Y Z : List PV) : ∀ (k i : Nat) (acc : List Int), i + k = n → acc.length ≤ i →
    L_roadbookref04_Of_2 (m : Int) o (T.map Def.pv) (i : Int) X Y Z (acc.map intp) = some (.tup [.agg [.slice 0 ((acc ++ colsOf o i k).map intp), .slice 0 Z], .bool true])
  | 0, i, acc, h, hl => by
    rw [L_roadbookref04_Of_2_eq]
    simp only [nat_le, cond_true, Int.toNat_natCast, List.getElem?_map, List.getElem?_eq_getElem hm, Option.map_some, Option.bind_some, Def.load0, c_i64_mk, hn]
    rw [show i = n by omega]
    simp [colsOf]
  | k + 1, i, acc, h, hl => by
    have hi : i < n := by omega
    rw [L_roadbookref04_Of_2_eq]
    simp only [nat_le, cond_true, Int.toNat_natCast, List.getElem?_map, List.getElem?_eq_getElem hm, Option.map_some, Option.bind_some, Def.load0, c_i64_mk, hn, lt_len hi, List.length_map, Bool.true_and, decide_eq_true (show acc.length + 1 ≤ 4294967296 by omega)]
    rw [wrap_succ (by omega), wrap64 (n := 4 * o) (by omega) (by omega), wrap64 (n := 4 * o + (i : Int)) (by omega) (by omega)]
    have := rof_loop o ho T m hm n hn hn4 X Y Z k (i + 1) (acc ++ [4 * o + (i : Int)]) (by omega) (by simp; omega)
    simp only [List.map_append, List.map_cons, List.map_nil] at this
    refine this.trans ?_
    rw [show colsOf o i (k + 1) = (4 * o + (i : Int)) :: colsOf o (i + 1) k from by simp [colsOf, List.range'_succ]]
    simp only [List.map_append, List.map_cons, List.append_assoc, List.cons_append, List.nil_append]
theorem wr_Of (T : List Def) (D : List (List (List Val))) (t o : Int) (hT : T.length ≤ 9223372036854775807) (hD : DOk D) : wc W n_roadbookref04_Of [catp T, datap D, .int .i64 t, .int .i64 o] = some (ofP (ofT T D t o)) := by
  have h := e_roadbookref04_Of (T.map Def.pv) (D.map tabp) t o
  rw [catp_fold, datap_fold] at h
  rw [h, wr_Fits T D hT hD]
  simp only [Option.bind_some, c_b_mk, List.length_map]
  unfold ofT
  cases hf : fits T D with
  | false => rfl
  | true =>
    obtain ⟨f1, f2, f3⟩ := fits_tab hf
    simp only [Bool.not_true, cond_false, Bool.true_and]
    by_cases h1 : t < 0
    · rw [decide_eq_true h1, decide_eq_false (show ¬ 0 ≤ t by omega)]; rfl
    rw [decide_eq_false h1, decide_eq_true (show 0 ≤ t by omega)]
    by_cases h2 : t ≥ (T.length : Int)
    · rw [decide_eq_true h2, decide_eq_false (show ¬ t ≤ (T.length : Int) - 1 by omega)]; rfl
    rw [decide_eq_false h2, decide_eq_true (show t ≤ (T.length : Int) - 1 by omega)]
    by_cases h3 : o < 0
    · rw [decide_eq_true h3, decide_eq_false (show ¬ 0 ≤ o by omega)]; rfl
    rw [decide_eq_false h3, decide_eq_true (show 0 ≤ o by omega)]
    by_cases h4 : o > 3
    · rw [decide_eq_true h4, decide_eq_false (show ¬ o ≤ 3 by omega)]; rfl
    rw [decide_eq_false h4, decide_eq_true (show o ≤ 3 by omega)]
    obtain ⟨m, rfl⟩ := Int.eq_ofNat_of_zero_le (show 0 ≤ t by omega)
    have hm : m < T.length := by omega
    have hmD : m < D.length := by omega
    obtain ⟨hc1, hc4⟩ := mayC_cols f2 hm
    obtain ⟨n, hn⟩ := Int.eq_ofNat_of_zero_le (show 0 ≤ colsAt T m by omega)
    have hcA : T[m].Cols = (n : Int) := by
      have := hn; unfold colsAt at this; rw [List.getElem?_eq_getElem hm] at this; exact this
    simp only [cond_false, J_roadbookref04_Of_1_eq, nat_le, cond_true, Int.toNat_natCast, List.getElem?_map, List.getElem?_eq_getElem hmD, Option.map_some, Option.bind_some, c_tabp, Bool.and_self]
    have := rof_loop o ⟨by omega, by omega⟩ T m hm n hcA (by omega) [] [] (D[m].map rowp) n 0 [] (by omega) (by simp)
    refine this.trans ?_
    simp only [hn, Int.toNat_natCast, List.getD_eq_getElem?_getD, List.getElem?_eq_getElem hmD, Option.getD_some]
    rfl
end Go.Cf

namespace Go.Cf
open Go Go.Ab
set_option linter.unusedVariables false
set_option linter.unusedSimpArgs false
theorem wr_Row (a b : List Val) (hl : a.length ≤ 9223372036854775807) : wc W n_roadbookref03_Row [rowp a, rowp b] = some (.bool (decide (a = b))) := by
  have h := e_roadbookref03_Row (a.map Val.pv) (b.map Val.pv)
  rw [rowp_fold, rowp_fold] at h
  rw [h]
  simp only [List.length_map]
  by_cases e : a.length = b.length
  · rw [bne_f (by rw [e]), cond_false]
    rw [loop_all (fun i => L_roadbookref03_Row_1 (a.map Val.pv) (b.map Val.pv) i) a.length (fun i => decide (a[i]? = b[i]?)) (some (.bool false)) (some (.bool true)) ?_ ?_]
    · rw [all_eq a b e]; cases decide (a = b) <;> rfl
    · intro i hi
      have hb : i < b.length := by omega
      rw [L_roadbookref03_Row_1_eq]
      simp only [List.length_map, lt_len hi, nat_le, cond_true, Int.toNat_natCast, List.getElem?_map, List.getElem?_eq_getElem hi, List.getElem?_eq_getElem hb, Option.map_some, Option.bind_some, Val.c_mk]
      rw [wrap64 (by omega) (by omega)]
      have key : ∀ x y : Val, decide (some x = some y) = (x.K == y.K && x.N == y.N) := by
        intro x y
        cases x; cases y
        simp only [Option.some.injEq, Val.mk.injEq]
        rw [Bool.decide_and]; rfl
      rw [key]
      cases a[i].K == b[i].K <;> cases a[i].N == b[i].N <;> rfl
    · rw [L_roadbookref03_Row_1_eq]; simp
  · rw [bne_t (by omega), decide_eq_false (fun h => e (by rw [h]))]; rfl
theorem wr_Ints (a b : List Int) (hl : a.length ≤ 9223372036854775807) : wc W n_roadbookref02_Ints [intsp a, intsp b] = some (.bool (decide (a = b))) := by
  have h := e_roadbookref02_Ints (a.map intp) (b.map intp)
  rw [intsp_fold, intsp_fold] at h
  rw [h]
  simp only [List.length_map]
  by_cases e : a.length = b.length
  · rw [bne_f (by rw [e]), cond_false]
    rw [loop_all (fun i => L_roadbookref02_Ints_1 (a.map intp) (b.map intp) i) a.length (fun i => decide (a[i]? = b[i]?)) (some (.bool false)) (some (.bool true)) ?_ ?_]
    · rw [all_eq a b e]; cases decide (a = b) <;> rfl
    · intro i hi
      have hb : i < b.length := by omega
      rw [L_roadbookref02_Ints_1_eq]
      simp only [List.length_map, lt_len hi, nat_le, cond_true, Int.toNat_natCast, List.getElem?_map, List.getElem?_eq_getElem hi, List.getElem?_eq_getElem hb, Option.map_some, Option.bind_some, c_intp]
      rw [wrap64 (by omega) (by omega)]
      by_cases hx : a[i] = b[i]
      · rw [bne_f hx, hx]; simp
      · rw [bne_t hx]; simp [hx]
    · rw [L_roadbookref02_Ints_1_eq]; simp
  · rw [bne_t (by omega), decide_eq_false (fun h => e (by rw [h]))]; rfl
theorem wr_Like (c d : List Int) (r s : List (List Val)) (hc : c.length ≤ 9223372036854775807) (hr : r.length ≤ 9223372036854775807) (hl : ∀ x ∈ r, x.length ≤ 9223372036854775807) :
    wc W n_roadbookref03_Like [bagp c r, bagp d s] = some (.bool (decide (c = d) && decide (r = s))) := by
  have h := e_roadbookref03_Like (c.map intp) (r.map rowp) (d.map intp) (s.map rowp)
  rw [intsp_fold, intsp_fold, tabp_fold, tabp_fold, bagp_fold, bagp_fold] at h
  rw [h, wr_Ints c d hc]
  simp only [Option.bind_some, c_b_mk, List.length_map]
  by_cases hcd : c = d
  · rw [decide_eq_true hcd]
    simp only [Bool.not_true, cond_false, Bool.true_and]
    by_cases e : r.length = s.length
    · rw [bne_f (by rw [e]), cond_false, J_roadbookref03_Like_1_eq]
      rw [loop_all (fun i => L_roadbookref03_Like_2 (c.map intp) (r.map rowp) (d.map intp) (s.map rowp) i) r.length (fun i => decide (r[i]? = s[i]?)) (some (.bool false)) (some (.bool true)) ?_ ?_]
      · rw [all_eq r s e]; cases decide (r = s) <;> rfl
      · intro i hi
        have hb : i < s.length := by omega
        rw [L_roadbookref03_Like_2_eq]
        simp only [List.length_map, lt_len hi, nat_le, cond_true, Int.toNat_natCast, List.getElem?_map, List.getElem?_eq_getElem hi, List.getElem?_eq_getElem hb, Option.map_some, Option.bind_some, c_rowp, rowp_fold, wr_Row _ _ (hl _ (List.getElem_mem hi)), c_b_mk]
        rw [wrap64 (by omega) (by omega)]
        by_cases hx : r[i] = s[i]
        · rw [hx]; simp
        · simp [hx]
      · rw [L_roadbookref03_Like_2_eq]; simp
    · rw [bne_t (by omega), decide_eq_false (fun h => e (by rw [h]))]; rfl
  · rw [decide_eq_false hcd]; rfl
theorem wr_Cat (a b : List Def) (hl : a.length ≤ 9223372036854775807) : wc W n_roadbookref04_Same [catp a, catp b] = some (.bool (decide (a = b))) := by
  have h := e_roadbookref04_Same (a.map Def.pv) (b.map Def.pv)
  rw [catp_fold, catp_fold] at h
  rw [h]
  simp only [List.length_map]
  by_cases e : a.length = b.length
  · rw [bne_f (by rw [e]), cond_false]
    rw [loop_all (fun i => L_roadbookref04_Same_1 (a.map Def.pv) (b.map Def.pv) i) a.length (fun i => decide (a[i]? = b[i]?)) (some (.bool false)) (some (.bool true)) ?_ ?_]
    · rw [all_eq a b e]; cases decide (a = b) <;> rfl
    · intro i hi
      have hb : i < b.length := by omega
      rw [L_roadbookref04_Same_1_eq]
      simp only [List.length_map, lt_len hi, nat_le, cond_true, Int.toNat_natCast, List.getElem?_map, List.getElem?_eq_getElem hi, List.getElem?_eq_getElem hb, Option.map_some, Option.bind_some, Def.c_mk]
      rw [wrap64 (by omega) (by omega)]
      have key : ∀ x y : Def, decide (some x = some y) = (x.Cols == y.Cols && x.Rows == y.Rows) := by
        intro x y
        cases x; cases y
        simp only [Option.some.injEq, Def.mk.injEq]
        rw [Bool.decide_and]; rfl
      rw [key]
      cases a[i].Cols == b[i].Cols <;> cases a[i].Rows == b[i].Rows <;> rfl
    · rw [L_roadbookref04_Same_1_eq]; simp
  · rw [bne_t (by omega), decide_eq_false (fun h => e (by rw [h]))]; rfl
def newP (T : List Def) : PV := bif mayC T then .tup [catp T, .bool true] else .tup [catp [], .bool false]
theorem w_New (T : List Def) (hl : T.length ≤ 4294967296) : wc W n_data_New [.slice 3 (T.map Def.pv)] = some (newP T) := by
  rw [e_data_New, x_slices_Clone_api_Def_api_Def _ (by simpa using hl)]
  simp only [Option.bind_some, c_s3_mk, catp_fold, w_data_May T (by omega), c_b_mk]
  unfold newP
  cases mayC T <;> rfl
theorem wr_New (T : List Def) (hl : T.length ≤ 4294967296) : wc W n_roadbookref04_New [.slice 3 (T.map Def.pv)] = some (newP T) := by
  rw [e_roadbookref04_New]
  simp only [catp_fold, wr_data_May T (show T.length ≤ 9223372036854775807 by omega), Option.bind_some, c_b_mk]
  unfold newP
  cases mayC T <;> rfl
theorem few3 (D : List (List (List Val))) (i : Nat) (hi : i < D.length) (hD : DOk D) (next : ∀ b, ∃ r, L_roadbooklaw04_few_1 (D.map tabp) b ((i : Int) + 1) = some (.bool r)) : ∀ (k j : Nat) (b : Bool), j + k = D[i].length → ∃ r, L_roadbooklaw04_few_3 (D.map tabp) b (i : Int) (j : Int) = some (.bool r)
  | 0, j, b, h => by
    have := hD.len
    obtain ⟨r, hr⟩ := next b
    refine ⟨r, ?_⟩
    rw [L_roadbooklaw04_few_3_eq, show j = D[i].length by omega]
    simp only [nat_le, cond_true, Int.toNat_natCast, List.getElem?_map, List.getElem?_eq_getElem hi, Option.map_some, Option.bind_some, c_tabp, List.length_map, ge_len, cond_false]
    rw [wrap64 (by omega) (by omega)]
    exact hr
  | k + 1, j, b, h => by
    have := hD.len
    have hj : j < D[i].length := by omega
    have := hD.tab _ (List.getElem_mem hi)
    rw [L_roadbooklaw04_few_3_eq]
    simp only [nat_le, cond_true, Int.toNat_natCast, List.getElem?_map, List.getElem?_eq_getElem hi, Option.map_some, Option.bind_some, c_tabp, List.length_map, lt_len hj]
    cases b with
    | true =>
      simp only [cond_true, J_roadbooklaw04_few_4_eq, nat_le, Int.toNat_natCast, List.getElem?_map, List.getElem?_eq_getElem hi, List.getElem?_eq_getElem hj, Option.map_some, Option.bind_some, c_tabp, c_rowp]
      rw [wrap_succ (by omega)]
      exact few3 D i hi hD next k (j + 1) _ (by omega)
    | false =>
      simp only [cond_false]
      rw [wrap64 (by omega) (by omega)]
      exact next false
theorem few1 (D : List (List (List Val))) (hD : DOk D) : ∀ (k i : Nat) (b : Bool), i + k = D.length → ∃ r, L_roadbooklaw04_few_1 (D.map tabp) b (i : Int) = some (.bool r)
  | 0, i, b, h => by
    rw [L_roadbooklaw04_few_1_eq, show i = D.length by omega]
    exact ⟨b, by simp⟩
  | k + 1, i, b, h => by
    have hi : i < D.length := by omega
    rw [L_roadbooklaw04_few_1_eq]
    simp only [List.length_map, lt_len hi, cond_true]
    cases b with
    | true =>
      simp only [cond_true, J_roadbooklaw04_few_2_eq, nat_le, Int.toNat_natCast, List.getElem?_map, List.getElem?_eq_getElem hi, Option.map_some, Option.bind_some, c_tabp]
      exact few3 D i hi hD (fun b => few1 D hD k (i + 1) b (by omega)) D[i].length 0 _ (by omega)
    | false => exact ⟨false, rfl⟩
theorem w_few (D : List (List (List Val))) (hD : DOk D) : ∃ r, wc W n_roadbooklaw04_few [datap D] = some (.bool r) := by
  have h := e_roadbooklaw04_few (D.map tabp)
  rw [datap_fold] at h
  rw [h]
  exact few1 D hD D.length 0 _ (by omega)
def tabs2 : List Def := [⟨2, 100⟩, ⟨1, 10⟩]
def rows2 : List (List (List Val)) := [[[⟨0, 1⟩, ⟨0, 2⟩], [⟨0, 3⟩, ⟨0, 4⟩]], [[⟨0, 4⟩]]]
theorem rows2_ok : DOk rows2 := ⟨by decide, by decide, by decide⟩
theorem w_awake : wc W n_roadbooklaw04_awake [] = some (.bool true) := by
  have h1 : wc W n_roadbooklaw04_Two [] = some (.tup [catp tabs2, datap rows2]) := e_roadbooklaw04_Two
  have h2 : ofT tabs2 rows2 0 2 = some ([8, 9], [[⟨0, 1⟩, ⟨0, 2⟩], [⟨0, 3⟩, ⟨0, 4⟩]]) := by decide
  have h3 : mayC tabs2 = true := by decide
  have h4 : fits tabs2 rows2 = true := by decide
  rw [e_roadbooklaw04_awake, h1]
  simp only [Option.bind_some, asTup_mk, List.getElem?_cons_zero, List.getElem?_cons_succ, c_catp, c_datap, catp_fold, datap_fold, w_Of tabs2 rows2 0 2 (by decide) rows2_ok, h2, ofP, c_bagp, c_b_mk, w_Col, c_i64_mk, w_data_May tabs2 (by decide), h3, w_Fits tabs2 rows2 (by decide) rows2_ok, h4]
  rfl
theorem w_DataTells (T : List Def) (D : List (List (List Val))) (t o n : Int) (hT : T.length ≤ 9223372036854775807) (hD : DOk D) : wc W n_roadbooklaw04_DataTells [catp T, datap D, .int .i64 t, .int .i64 o, .int .i64 n] = some (.bool true) := by
  have h := e_roadbooklaw04_DataTells (T.map Def.pv) (D.map tabp) t o n
  rw [catp_fold, datap_fold] at h
  obtain ⟨r, hr⟩ := w_few D hD
  rw [h, w_awake, hr]
  simp only [Option.bind_some, c_b_mk, Bool.not_true, cond_false, List.length_map]
  cases r with
  | false => rfl
  | true =>
    by_cases h10 : (T.length : Int) > 10
    · rw [decide_eq_true h10]; rfl
    rw [decide_eq_false h10]
    simp only [Bool.not_true, cond_false, J_roadbooklaw04_DataTells_1_eq, catp_fold, datap_fold, w_Of T D t o hT hD, wr_Of T D t o hT hD, w_New T (by omega), wr_New T (by omega), w_Split, wr_Split, Option.bind_some]
    have hs : ∃ a b c, splitP n = .tup [.int .i64 a, .int .i64 b, .bool c] := by
      unfold splitP
      cases (decide (0 ≤ n) && decide (n ≤ 15)) with
      | true => exact ⟨_, _, _, rfl⟩
      | false => exact ⟨_, _, _, rfl⟩
    obtain ⟨x, y, z, hs⟩ := hs
    have hn : ∃ T', ∃ b, newP T = .tup [catp T', .bool b] ∧ T'.length ≤ 9223372036854775807 := by
      unfold newP
      cases mayC T with
      | true => exact ⟨T, true, rfl, hT⟩
      | false => exact ⟨[], false, rfl, by decide⟩
    obtain ⟨T', b', hn, hT'⟩ := hn
    have ho : ∃ c r b, ofP (ofT T D t o) = .tup [bagp c r, .bool b] ∧ c.length ≤ 9223372036854775807 ∧ r.length ≤ 9223372036854775807 ∧ ∀ x ∈ r, x.length ≤ 9223372036854775807 := by
      cases e : ofT T D t o with
      | none => exact ⟨[], [], false, rfl, by decide, by decide, by simp⟩
      | some q =>
        refine ⟨q.1, q.2, true, rfl, ?_⟩
        unfold ofT at e
        have hq : ∀ (b : Bool) (v : List Int × List (List Val)), (bif b then some v else none) = some q → b = true ∧ v = q := by
          intro b v h; cases b with
          | true => exact ⟨rfl, by simpa using h⟩
          | false => cases h
        obtain ⟨e1, e2⟩ := hq _ _ e
        subst e2
        simp only [Bool.and_eq_true, decide_eq_true_eq] at e1
        obtain ⟨f1, f2, f3⟩ := fits_tab e1.1.1
        have hm : t.toNat < T.length := by omega
        obtain ⟨c1, c4⟩ := mayC_cols f2 hm
        refine ⟨by simp [colsOf]; omega, ?_⟩
        have hmD : t.toNat < D.length := by omega
        simp only [List.getD_eq_getElem?_getD, List.getElem?_eq_getElem hmD, Option.getD_some]
        exact ⟨hD.tab _ (List.getElem_mem hmD), hD.row _ (List.getElem_mem hmD)⟩
    obtain ⟨c, rs, b, ho, k1, k2, k3⟩ := ho
    rw [hs, hn, ho]
    simp only [asTup_mk, Option.bind_some, List.getElem?_cons_zero, List.getElem?_cons_succ, c_bagp, c_b_mk, c_catp, c_i64_mk, intsp_fold, tabp_fold, bagp_fold, catp_fold, wr_Like c c rs rs k1 k2 k3, decide_true, Bool.and_self, cond_true, beq_self_eq_true, wr_Cat T' T' hT', J_roadbooklaw04_DataTells_2_eq, w_data_May T hT, wr_data_May T hT, datap_fold, w_Fits T D hT hD, wr_Fits T D hT hD, w_Col, wr_Col]
theorem w_DataCols (o c n : Int) : wc W n_roadbooklaw04_DataCols [.int .i64 o, .int .i64 c, .int .i64 n] = some (.bool true) := by
  have split_of : ∀ m : Int, splitP m = .tup [.int .i64 (bif decide (0 ≤ m) && decide (m ≤ 15) then m / 4 else 0), .int .i64 (bif decide (0 ≤ m) && decide (m ≤ 15) then m % 4 else 0), .bool (decide (0 ≤ m) && decide (m ≤ 15))] := by
    intro m; unfold splitP; cases (decide (0 ≤ m) && decide (m ≤ 15)) <;> rfl
  have tail : J_roadbooklaw04_DataCols_1 n true = some (.bool true) := by
    rw [J_roadbooklaw04_DataCols_1_eq, w_Split, split_of]
    simp only [Option.bind_some, asTup_mk, List.getElem?_cons_zero, List.getElem?_cons_succ, c_i64_mk, c_b_mk]
    by_cases h0 : 0 ≤ n
    · rw [decide_eq_true (show n ≥ 0 from h0)]
      by_cases h15 : n ≤ 15
      · rw [decide_eq_true h15]
        simp only [Bool.and_self, cond_true, J_roadbooklaw04_DataCols_2_eq, w_Col, Option.bind_some, c_i64_mk, colI]
        rw [decide_eq_true (show (0 : Int) ≤ n / 4 by omega), decide_eq_true (show n / 4 ≤ (3 : Int) by omega), decide_eq_true (show (0 : Int) ≤ n % 4 by omega), decide_eq_true (show n % 4 ≤ (3 : Int) by omega)]
        simp only [Bool.and_self, cond_true]
        rw [beq_t (show 4 * (n / 4) + n % 4 = n by omega)]
        rfl
      · rw [decide_eq_false h15, Bool.and_false]
        simp only [cond_true, beq_self_eq_true, Bool.not_true, cond_false, J_roadbooklaw04_DataCols_2_eq, Bool.not_false]
    · rw [decide_eq_false (show ¬ n ≥ 0 from h0)]
      simp only [Bool.false_and, cond_false, beq_self_eq_true, Bool.not_true, J_roadbooklaw04_DataCols_2_eq, cond_true, Bool.not_false]
  rw [e_roadbooklaw04_DataCols, w_awake]
  simp only [Option.bind_some, c_b_mk, w_Col, c_i64_mk, w_Split, split_of, asTup_mk, List.getElem?_cons_zero, List.getElem?_cons_succ, tail]
  by_cases h : (0 ≤ o ∧ o ≤ 3) ∧ (0 ≤ c ∧ c ≤ 3)
  · obtain ⟨⟨a1, a2⟩, a3, a4⟩ := h
    have e : colI o c = 4 * o + c := by
      unfold colI; rw [decide_eq_true a1, decide_eq_true a2, decide_eq_true a3, decide_eq_true a4]; rfl
    rw [e, decide_eq_true (show 4 * o + c ≥ 0 by omega), decide_eq_true (show 4 * o + c ≤ 15 by omega), decide_eq_false (show ¬ 4 * o + c < 0 by omega)]
    simp only [Bool.and_self, cond_true, Bool.not_true, cond_false]
    rw [bne_f (show (4 * o + c) / 4 = o by omega), bne_f (show (4 * o + c) % 4 = c by omega)]
    rfl
  · have e : colI o c = -1 := by
      unfold colI
      have : ((decide (0 ≤ o) && decide (o ≤ 3)) && (decide (0 ≤ c) && decide (c ≤ 3))) = false := by
        rw [← Bool.decide_and, ← Bool.decide_and, ← Bool.decide_and]; exact decide_eq_false h
      rw [this]; rfl
    rw [e]
    rfl
end Go.Cf

namespace Go.Cf
open Go Go.Ab
set_option linter.unusedVariables false
set_option linter.unusedSimpArgs false
def badRow (r : List Val) : List Val := ⟨3, 0⟩ :: r.drop 1
def lessF (i table row : Int) : Nat → List (List Val) → List (List Val)
  | _, [] => []
  | j, r :: s => bif (i == table) && ((j : Int) == row) then lessF i table row (j + 1) s else r :: lessF i table row (j + 1) s
def badF (i table row : Int) : Nat → List (List Val) → List (List Val)
  | _, [] => []
  | j, r :: s => (bif (i == table) && ((j : Int) == row) then badRow r else r) :: badF i table row (j + 1) s
def lessD (table row : Int) : Nat → List (List (List Val)) → List (List (List Val))
  | _, [] => []
  | i, t :: D => lessF i table row 0 t :: lessD table row (i + 1) D
def badD (table row : Int) : Nat → List (List (List Val)) → List (List (List Val))
  | _, [] => []
  | i, t :: D => badF i table row 0 t :: badD table row (i + 1) D
theorem less3 (T : List PV) (D : List (List (List Val))) (table row : Int) (i : Nat) (hi : i < D.length) (hD : D.length ≤ 100) (h8 : D[i].length ≤ 8) (hr : ∀ r ∈ D[i], 1 ≤ r.length ∧ r.length ≤ 4) (less bad : List (List (List Val))) (hls : less.length ≤ i) (hbs : bad.length ≤ i) : ∀ (k j : Nat) (l m : List (List Val)), j + k = D[i].length → l.length ≤ j → m.length ≤ j →
    L_roadbooklaw04_DataLess_3 table row T (D.map tabp) (i : Int) (j : Int) (less.map tabp) (bad.map tabp) (l.map rowp) (m.map rowp) =
    L_roadbooklaw04_DataLess_2 table row T (D.map tabp) ((i : Int) + 1) ((less ++ [l ++ lessF i table row j (D[i].drop j)]).map tabp) ((bad ++ [m ++ badF i table row j (D[i].drop j)]).map tabp)
  | 0, j, l, m, h, hl, hm => by
    rw [L_roadbooklaw04_DataLess_3_eq, show j = D[i].length by omega, List.drop_length]
    simp only [nat_le, cond_true, Int.toNat_natCast, List.getElem?_map, List.getElem?_eq_getElem hi, Option.map_some, Option.bind_some, c_tabp, List.length_map, ge_len, cond_false, Bool.true_and, decide_eq_true (show less.length + 1 ≤ 4294967296 by omega), decide_eq_true (show bad.length + 1 ≤ 4294967296 by omega), lessF, badF, List.append_nil, List.map_append, List.map_cons, List.map_nil, tabp_fold]
    rw [wrap64 (by omega) (by omega)]
  | k + 1, j, l, m, h, hl, hm => by
    have hj : j < D[i].length := by omega
    have hm' := List.getElem_mem hj
    obtain ⟨r1, r4⟩ := hr _ hm'
    rw [L_roadbooklaw04_DataLess_3_eq]
    simp only [nat_le, cond_true, Int.toNat_natCast, List.getElem?_map, List.getElem?_eq_getElem hi, Option.map_some, Option.bind_some, c_tabp, List.length_map, lt_len hj]
    have e0 : (bif (i : Int) == table then J_roadbooklaw04_DataLess_4 table row T (D.map tabp) (i : Int) (j : Int) ((j : Int) == row) (less.map tabp) (bad.map tabp) (l.map rowp) (m.map rowp) else J_roadbooklaw04_DataLess_4 table row T (D.map tabp) (i : Int) (j : Int) false (less.map tabp) (bad.map tabp) (l.map rowp) (m.map rowp)) =
        J_roadbooklaw04_DataLess_4 table row T (D.map tabp) (i : Int) (j : Int) (((i : Int) == table) && ((j : Int) == row)) (less.map tabp) (bad.map tabp) (l.map rowp) (m.map rowp) := by
      cases ((i : Int) == table) <;> rfl
    rw [e0, J_roadbooklaw04_DataLess_4_eq, List.drop_eq_getElem_cons hj, lessF, badF]
    cases hd : (((i : Int) == table) && ((j : Int) == row)) with
    | true =>
      have ht : List.take (D[i][j].length - 1) (List.drop 1 (D[i][j].map Val.pv)) = (D[i][j].drop 1).map Val.pv := by
        rw [← List.map_drop, List.take_of_length_le (by simp)]
      simp only [cond_true, nat_le, Int.toNat_natCast, List.getElem?_map, List.getElem?_eq_getElem hi, List.getElem?_eq_getElem hj, Option.map_some, Option.bind_some, c_tabp, c_rowp]
      simp only [ht, List.length_map, decide_eq_true (show (1 : Int) ≤ (D[i][j].length : Int) by omega), decide_eq_true (Int.le_refl _), Bool.and_self, cond_true, decide_eq_true (show 1 + (D[i][j].drop 1).length ≤ 4294967296 by simp; omega), Bool.true_and, decide_eq_true (show m.length + 1 ≤ 4294967296 by omega)]
      rw [wrap_succ (by omega)]
      have := less3 T D table row i hi hD h8 hr less bad hls hbs k (j + 1) l (m ++ [badRow D[i][j]]) (by omega) (by omega) (by simp; omega)
      simp only [List.map_append, List.map_cons, List.map_nil, List.append_assoc, List.cons_append, List.nil_append] at this
      simp only [List.map_append, List.map_cons, List.map_nil, List.append_assoc, List.cons_append, List.nil_append]
      exact this
    | false =>
      simp only [cond_false, cond_true, nat_le, Int.toNat_natCast, List.getElem?_map, List.getElem?_eq_getElem hi, List.getElem?_eq_getElem hj, Option.map_some, Option.bind_some, c_tabp, c_rowp, List.length_map, Bool.true_and, decide_eq_true (show m.length + 1 ≤ 4294967296 by omega), decide_eq_true (show l.length + 1 ≤ 4294967296 by omega)]
      rw [wrap_succ (by omega)]
      have := less3 T D table row i hi hD h8 hr less bad hls hbs k (j + 1) (l ++ [D[i][j]]) (m ++ [D[i][j]]) (by omega) (by simp; omega) (by simp; omega)
      simp only [List.map_append, List.map_cons, List.map_nil, List.append_assoc, List.cons_append, List.nil_append] at this
      simp only [List.map_append, List.map_cons, List.map_nil, List.append_assoc, List.cons_append, List.nil_append]
      exact this
theorem less2 (T : List PV) (D : List (List (List Val))) (table row : Int) (hD : D.length ≤ 100) (h8 : ∀ t ∈ D, t.length ≤ 8) (hr : ∀ t ∈ D, ∀ r ∈ t, 1 ≤ r.length ∧ r.length ≤ 4) : ∀ (k i : Nat) (less bad : List (List (List Val))), i + k = D.length → less.length ≤ i → bad.length ≤ i →
    L_roadbooklaw04_DataLess_2 table row T (D.map tabp) (i : Int) (less.map tabp) (bad.map tabp) = L_roadbooklaw04_DataLess_2 table row T (D.map tabp) (D.length : Int) ((less ++ lessD table row i (D.drop i)).map tabp) ((bad ++ badD table row i (D.drop i)).map tabp)
  | 0, i, less, bad, h, hl, hb => by
    rw [show i = D.length by omega, List.drop_length]; simp [lessD, badD]
  | k + 1, i, less, bad, h, hl, hb => by
    have hi : i < D.length := by omega
    have hm := List.getElem_mem hi
    rw [L_roadbooklaw04_DataLess_2_eq]
    simp only [List.length_map, lt_len hi, cond_true]
    have := less3 T D table row i hi hD (h8 _ hm) (hr _ hm) less bad hl hb D[i].length 0 [] [] (by omega) (by simp) (by simp)
    simp only [List.map_nil, List.nil_append, List.drop_zero] at this
    refine this.trans ?_
    have := less2 T D table row hD h8 hr k (i + 1) (less ++ [lessF i table row 0 D[i]]) (bad ++ [badF i table row 0 D[i]]) (by omega) (by simp; omega) (by simp; omega)
    rw [show ((i : Int) + 1) = ((i + 1 : Nat) : Int) by omega]
    refine this.trans ?_
    rw [List.drop_eq_getElem_cons hi, lessD, badD]
    simp only [List.append_assoc, List.cons_append, List.nil_append]
theorem lessF_sub (i table row : Int) : ∀ (j : Nat) (t : List (List Val)), (lessF i table row j t).length ≤ t.length ∧ ∀ r ∈ lessF i table row j t, r ∈ t
  | _, [] => ⟨Nat.le_refl _, fun r h => h⟩
  | j, r :: s => by
    obtain ⟨h1, h2⟩ := lessF_sub i table row (j + 1) s
    unfold lessF
    cases (i == table) && ((j : Int) == row) with
    | true => exact ⟨by simp only [cond_true, List.length_cons]; omega, fun x hx => List.mem_cons_of_mem _ (h2 x hx)⟩
    | false =>
      refine ⟨by simp only [cond_false, List.length_cons]; omega, fun x hx => ?_⟩
      simp only [cond_false, List.mem_cons] at hx
      rcases hx with rfl | hx
      · simp
      · exact List.mem_cons_of_mem _ (h2 x hx)
theorem badF_len (i table row : Int) : ∀ (j : Nat) (t : List (List Val)), (badF i table row j t).length = t.length
  | _, [] => rfl
  | j, r :: s => by simp [badF, badF_len i table row (j + 1) s]
theorem badF_bad (table row : Int) : ∀ (j : Nat) (t : List (List Val)), (j : Int) ≤ row → row < (j : Int) + t.length → ∃ r ∈ badF table table row j t, r.all mayV = false
  | j, [], h1, h2 => by simp at h2; omega
  | j, r :: s, h1, h2 => by
    unfold badF
    by_cases e : (j : Int) = row
    · refine ⟨badRow r, ?_, ?_⟩
      · rw [beq_t rfl, beq_t e]; simp
      · simp [badRow, mayV]
    · obtain ⟨x, hx, hb⟩ := badF_bad table row (j + 1) s (by omega) (by simp only [List.length_cons] at h2; omega)
      exact ⟨x, List.mem_cons_of_mem _ hx, hb⟩
theorem lessD_get (table row : Int) : ∀ (i : Nat) (D : List (List (List Val))) (k : Nat), (lessD table row i D)[k]? = D[k]?.map (lessF ((i + k : Nat) : Int) table row 0)
  | _, [], k => by simp [lessD]
  | i, t :: D, 0 => by simp [lessD]
  | i, t :: D, k + 1 => by
    rw [lessD, List.getElem?_cons_succ, List.getElem?_cons_succ, lessD_get table row (i + 1) D k, show i + 1 + k = i + (k + 1) by omega]
theorem badD_get (table row : Int) : ∀ (i : Nat) (D : List (List (List Val))) (k : Nat), (badD table row i D)[k]? = D[k]?.map (badF ((i + k : Nat) : Int) table row 0)
  | _, [], k => by simp [badD]
  | i, t :: D, 0 => by simp [badD]
  | i, t :: D, k + 1 => by
    rw [badD, List.getElem?_cons_succ, List.getElem?_cons_succ, badD_get table row (i + 1) D k, show i + 1 + k = i + (k + 1) by omega]
theorem lessD_len (table row : Int) : ∀ (i : Nat) (D : List (List (List Val))), (lessD table row i D).length = D.length
  | _, [] => rfl
  | i, t :: D => by simp [lessD, lessD_len table row (i + 1) D]
theorem badD_len (table row : Int) : ∀ (i : Nat) (D : List (List (List Val))), (badD table row i D).length = D.length
  | _, [] => rfl
  | i, t :: D => by simp [badD, badD_len table row (i + 1) D]
theorem fits_less {T : List Def} {D : List (List (List Val))} (table row : Int) (h : fits T D = true) : fits T (lessD table row 0 D) = true := by
  obtain ⟨f1, f2, f3⟩ := fits_tab h
  unfold fits
  simp only [f2, lessD_len, f1, decide_true, Bool.and_self, Bool.true_and, List.all_eq_true, List.mem_range]
  intro i hi
  have hiD : i < D.length := by omega
  rw [lessD_get, List.getElem?_eq_getElem hiD]
  simp only [Option.map_some, Option.all_some]
  have := f3 i hiD
  unfold tabOk at this ⊢
  simp only [Bool.and_eq_true, decide_eq_true_eq, List.all_eq_true] at this ⊢
  obtain ⟨h1, h2⟩ := lessF_sub ((0 + i : Nat) : Int) table row 0 D[i]
  exact ⟨by omega, fun r hr => this.2 r (h2 r hr)⟩
theorem fits_bad {T : List Def} {D : List (List (List Val))} (m : Nat) (row : Int) (hm : m < D.length) (h0 : 0 ≤ row) (h1 : row < (D[m].length : Int)) : fits T (badD (m : Int) row 0 D) = false := by
  rw [Bool.eq_false_iff]
  intro h
  obtain ⟨f1, f2, f3⟩ := fits_tab h
  rw [badD_len] at f1
  have hb : m < (badD (m : Int) row 0 D).length := by rw [badD_len]; exact hm
  have h2 := f3 m hb
  have h3 : (badD (m : Int) row 0 D)[m] = badF (m : Int) (m : Int) row 0 D[m] := by
    have := badD_get (m : Int) row 0 D m
    rw [List.getElem?_eq_getElem hb, List.getElem?_eq_getElem hm] at this
    simpa using this
  rw [h3] at h2
  obtain ⟨r, hr, hbad⟩ := badF_bad (m : Int) row 0 D[m] (by omega) (by omega)
  unfold tabOk at h2
  simp only [Bool.and_eq_true, List.all_eq_true] at h2
  have := h2.2 r hr
  unfold rowOk at this
  rw [hbad, Bool.and_false] at this
  cases this
theorem w_DataLess (T : List Def) (D : List (List (List Val))) (t r : Int) (hT : T.length ≤ 9223372036854775807) (hD : DOk D) : wc W n_roadbooklaw04_DataLess [catp T, datap D, .int .i64 t, .int .i64 r] = some (.bool true) := by
  have h := e_roadbooklaw04_DataLess (T.map Def.pv) (D.map tabp) t r
  rw [catp_fold, datap_fold] at h
  obtain ⟨b, hb⟩ := w_few D hD
  rw [h, w_awake, hb]
  simp only [Option.bind_some, c_b_mk, Bool.not_true, cond_false, List.length_map, w_Fits T D hT hD]
  cases b with
  | false => rfl
  | true =>
    by_cases h10 : (T.length : Int) > 10
    · rw [decide_eq_true h10]; rfl
    rw [decide_eq_false h10]
    cases hf : fits T D with
    | false => rfl
    | true =>
      by_cases h1 : t < 0
      · rw [decide_eq_true h1]; rfl
      rw [decide_eq_false h1]
      by_cases h2 : t ≥ (D.length : Int)
      · rw [decide_eq_true h2]; rfl
      rw [decide_eq_false h2]
      by_cases h3 : r < 0
      · rw [decide_eq_true h3]; rfl
      rw [decide_eq_false h3]
      obtain ⟨m, rfl⟩ := Int.eq_ofNat_of_zero_le (show 0 ≤ t by omega)
      have hm : m < D.length := by omega
      simp only [Bool.not_true, cond_false, nat_le, cond_true, Int.toNat_natCast, List.getElem?_map, List.getElem?_eq_getElem hm, Option.map_some, Option.bind_some, c_tabp, List.length_map]
      by_cases h4 : r ≥ (D[m].length : Int)
      · rw [decide_eq_true h4]; rfl
      rw [decide_eq_false h4]
      obtain ⟨f1, f2, f3⟩ := fits_tab hf
      have hall : ∀ tt ∈ D, tt.length ≤ 8 ∧ ∀ x ∈ tt, 1 ≤ x.length ∧ x.length ≤ 4 := by
        intro tt ht
        obtain ⟨i, hi, rfl⟩ := List.mem_iff_getElem.1 ht
        obtain ⟨c1, c4⟩ := mayC_cols f2 (show i < T.length by omega)
        obtain ⟨r8, rr⟩ := tab_rows (f3 i hi) c4
        exact ⟨r8, fun x hx => by have := rr x hx; omega⟩
      have hloop := less2 (T.map Def.pv) D (m : Int) r (by omega) (fun t ht => (hall t ht).1) (fun t ht => (hall t ht).2) D.length 0 [] [] (by omega) (by simp) (by simp)
      simp only [List.map_nil, List.nil_append, List.drop_zero] at hloop
      simp only [cond_false, J_roadbooklaw04_DataLess_1_eq]
      refine hloop.trans ?_
      have hLok : DOk (lessD (m : Int) r 0 D) := by
        refine ⟨by rw [lessD_len]; exact hD.len, fun t ht => ?_, fun t ht x hx => ?_⟩
        · obtain ⟨i, hi, rfl⟩ := List.mem_iff_getElem.1 ht
          have hiD : i < D.length := by rw [lessD_len] at hi; exact hi
          have e := lessD_get (m : Int) r 0 D i
          rw [List.getElem?_eq_getElem hi, List.getElem?_eq_getElem hiD] at e
          simp only [Option.map_some, Option.some.injEq] at e
          rw [e]
          have := (lessF_sub ((0 + i : Nat) : Int) (m : Int) r 0 D[i]).1
          have := (hall _ (List.getElem_mem hiD)).1
          omega
        · obtain ⟨i, hi, rfl⟩ := List.mem_iff_getElem.1 ht
          have hiD : i < D.length := by rw [lessD_len] at hi; exact hi
          have e := lessD_get (m : Int) r 0 D i
          rw [List.getElem?_eq_getElem hi, List.getElem?_eq_getElem hiD] at e
          simp only [Option.map_some, Option.some.injEq] at e
          rw [e] at hx
          exact hD.row _ (List.getElem_mem hiD) x ((lessF_sub ((0 + i : Nat) : Int) (m : Int) r 0 D[i]).2 x hx)
      have hbl : ∀ (i : Int) (j : Nat) (t : List (List Val)), (∀ x ∈ t, x.length ≤ 4) → ∀ x ∈ badF i (m : Int) r j t, x.length ≤ 5 := by
        intro i j t
        induction t generalizing j with
        | nil => intro _ x hx; cases hx
        | cons a s ih =>
          intro ht x hx
          simp only [badF, List.mem_cons] at hx
          rcases hx with rfl | hx
          · have := ht a (by simp)
            cases (i == (m : Int)) && ((j : Int) == r) with
            | true => simp [badRow]; omega
            | false => simp only [cond_false]; omega
          · exact ih (j + 1) (fun y hy => ht y (by simp [hy])) x hx
      have hBok : DOk (badD (m : Int) r 0 D) := by
        refine ⟨by rw [badD_len]; exact hD.len, fun t ht => ?_, fun t ht x hx => ?_⟩
        · obtain ⟨i, hi, rfl⟩ := List.mem_iff_getElem.1 ht
          have hiD : i < D.length := by rw [badD_len] at hi; exact hi
          have e := badD_get (m : Int) r 0 D i
          rw [List.getElem?_eq_getElem hi, List.getElem?_eq_getElem hiD] at e
          simp only [Option.map_some, Option.some.injEq] at e
          rw [e, badF_len]
          have := (hall _ (List.getElem_mem hiD)).1
          omega
        · obtain ⟨i, hi, rfl⟩ := List.mem_iff_getElem.1 ht
          have hiD : i < D.length := by rw [badD_len] at hi; exact hi
          have e := badD_get (m : Int) r 0 D i
          rw [List.getElem?_eq_getElem hi, List.getElem?_eq_getElem hiD] at e
          simp only [Option.map_some, Option.some.injEq] at e
          rw [e] at hx
          have := hbl _ _ _ (fun y hy => ((hall _ (List.getElem_mem hiD)).2 y hy).2) x hx
          omega
      rw [L_roadbooklaw04_DataLess_2_eq]
      simp only [List.length_map, ge_len, cond_false, catp_fold, datap_fold, w_Fits T _ hT hLok, fits_less (m : Int) r hf, Option.bind_some, c_b_mk, cond_true, w_Fits T _ hT hBok, fits_bad m r hm (by omega) (by omega), Bool.not_false, w_data_May T hT, f2]
end Go.Cf
