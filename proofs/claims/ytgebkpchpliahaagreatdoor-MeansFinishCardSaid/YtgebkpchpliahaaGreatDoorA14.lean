/- Part 15 of the proof: an abstract machine that runs the program's code over plain values, its soundness, and what the functions tell of plain values. Conditions: those in each theorem. -/
import Derived.Test.YtgebkpchpliahaaGreatDoorA13
import Derived.Carry
set_option linter.unusedSectionVars false
namespace Go.Ab
open Go.RowKit (Below)
set_option linter.unusedVariables false
set_option linter.unusedSimpArgs false
variable [GL : Gl]
section
variable {c : Cfg} {t e : TypeId} {p : PV}
theorem Typed.int_inv {k : IntKind} (h : Typed c t p) (hk : (c.at_ t).k = .int k) : ∃ n, p = .int k n ∧ (Lit.int k n).wf = true := by
  cases h with
  | int t k' n h hw => rw [hk] at h; cases h; exact ⟨n, rfl, hw⟩
  | bool t b h => rw [hk] at h; cases h
  | str t s h => rw [hk] at h; cases h
  | slice t e xs h => rw [hk] at h; cases h
  | struct t fs ps h => rw [hk] at h; cases h
  | arr t e n ps h => rw [hk] at h; cases h
theorem Typed.bool_inv (h : Typed c t p) (hk : (c.at_ t).k = .bool) : ∃ b, p = .bool b := by
  cases h with
  | int t k' n h hw => rw [hk] at h; cases h
  | bool t b h => exact ⟨b, rfl⟩
  | str t s h => rw [hk] at h; cases h
  | slice t e xs h => rw [hk] at h; cases h
  | struct t fs ps h => rw [hk] at h; cases h
  | arr t e n ps h => rw [hk] at h; cases h
theorem Typed.str_inv (h : Typed c t p) (hk : (c.at_ t).k = .str) : ∃ s, p = .str s ∧ s.size ≤ maxLen := by
  cases h with
  | int t k' n h hw => rw [hk] at h; cases h
  | bool t b h => rw [hk] at h; cases h
  | str t s h hs => exact ⟨s, rfl, hs⟩
  | slice t e xs h => rw [hk] at h; cases h
  | struct t fs ps h => rw [hk] at h; cases h
  | arr t e n ps h => rw [hk] at h; cases h
theorem Typed.slice_inv (h : Typed c t p) (hk : (c.at_ t).k = .slice e) : ∃ xs, p = .slice (c.sh e) xs ∧ xs.length ≤ maxLen ∧ ∀ x ∈ xs, Typed c e x := by
  cases h with
  | int t k' n h hw => rw [hk] at h; cases h
  | bool t b h => rw [hk] at h; cases h
  | str t s h => rw [hk] at h; cases h
  | slice t e xs h hl hx => rw [hk] at h; cases h; exact ⟨xs, rfl, hl, hx⟩
  | struct t fs ps h => rw [hk] at h; cases h
  | arr t e n ps h => rw [hk] at h; cases h
theorem Typed.arr_inv {n : Nat} (h : Typed c t p) (hk : (c.at_ t).k = .arr n e) : ∃ ps : List PV, p = .agg (ps.flatMap PV.cells) ∧ ps.length = n ∧ ∀ x ∈ ps, Typed c e x := by
  cases h with
  | int t k' n h hw => rw [hk] at h; cases h
  | bool t b h => rw [hk] at h; cases h
  | str t s h => rw [hk] at h; cases h
  | slice t e xs h => rw [hk] at h; cases h
  | struct t fs ps h => rw [hk] at h; cases h
  | arr t e n ps h hl hx => rw [hk] at h; cases h; exact ⟨ps, rfl, hl, hx⟩
def TypedL (c : Cfg) : List TypeId → List PV → Prop
  | [], [] => True
  | t :: ts, p :: ps => Typed c t p ∧ TypedL c ts ps
  | _, _ => False
theorem typedL_of {c : Cfg} : ∀ {fs : List (TypeId × Nat)} {ps : List PV}, ps.length = fs.length → (∀ (i : Nat) (f : TypeId × Nat) (p : PV), fs[i]? = some f → ps[i]? = some p → Typed c f.1 p) → TypedL c (fs.map (·.1)) ps
  | [], [], _, _ => trivial
  | [], _ :: _, h, _ => by simp at h
  | _ :: _, [], h, _ => by simp at h
  | f :: fs, p :: ps, h, k => ⟨k 0 f p rfl rfl, typedL_of (by simpa using h) fun i f p hf hp => k (i + 1) f p (by simpa using hf) (by simpa using hp)⟩
theorem Typed.struct_inv {fs : List (TypeId × Nat)} (h : Typed c t p) (hk : (c.at_ t).k = .struct fs) : ∃ ps : List PV, p = .agg (ps.flatMap PV.cells) ∧ TypedL c (fs.map (·.1)) ps := by
  cases h with
  | int t k' n h hw => rw [hk] at h; cases h
  | bool t b h => rw [hk] at h; cases h
  | str t s h => rw [hk] at h; cases h
  | slice t e xs h => rw [hk] at h; cases h
  | struct t fs ps h hl hp => rw [hk] at h; cases h; exact ⟨ps, rfl, typedL_of hl hp⟩
  | arr t e n ps h => rw [hk] at h; cases h
theorem typedL1 {a : TypeId} {ps : List PV} (h : TypedL c [a] ps) : ∃ x, ps = [x] ∧ Typed c a x := by
  match ps, h with
  | [x], h => exact ⟨x, rfl, h.1⟩
theorem typedL_cons {a : TypeId} {ts : List TypeId} {ps : List PV} (h : TypedL c (a :: ts) ps) : ∃ x qs, ps = x :: qs ∧ Typed c a x ∧ TypedL c ts qs := by
  match ps, h with
  | x :: qs, h => exact ⟨x, qs, rfl, h.1, h.2⟩
theorem typedL_nil {ps : List PV} (h : TypedL c [] ps) : ps = [] := by
  match ps, h with
  | [], h => rfl
theorem list_of {α : Type} {Q : α → Prop} {f : α → PV} : ∀ {xs : List PV}, (∀ x ∈ xs, ∃ a, x = f a ∧ Q a) → ∃ l : List α, xs = l.map f ∧ ∀ a ∈ l, Q a
  | [], _ => ⟨[], rfl, by simp⟩
  | x :: xs, h => by
    obtain ⟨a, rfl, ha⟩ := h x (by simp)
    obtain ⟨l, rfl, hl⟩ := list_of (xs := xs) (fun y hy => h y (List.mem_cons_of_mem _ hy))
    exact ⟨a :: l, rfl, by simpa using ⟨ha, hl⟩⟩
end
end Go.Ab

namespace Go.Cf
open Go Go.Ab
set_option linter.unusedVariables false
theorem ty_int {p : PV} (h : Typed cfg t_int p) : ∃ n : Int, p = .int .i64 n ∧ I64 n := by
  obtain ⟨n, rfl, hw⟩ := h.int_inv (k := .i64) (by kernel_rfl)
  exact ⟨n, rfl, wf_i64 hw⟩
theorem ty_string {p : PV} (h : Typed cfg t_string p) : ∃ s : ByteArray, p = .str s ∧ s.size ≤ maxLen := h.str_inv (by kernel_rfl)
end Go.Cf

namespace Go.Cf
open Go Go.Ab
set_option linter.unusedVariables false
set_option maxRecDepth 100000
noncomputable def jF9 : Jn PV := (Classical.choose (exT fi9 (fin cfg fi9))).1
noncomputable def lF9 : Ln PV := (Classical.choose (exT fi9 (fin cfg fi9))).2
theorem T9 : Tied cfg W fi9 (fin cfg fi9) jF9 lF9 := Classical.choose_spec (exT fi9 (fin cfg fi9))
noncomputable def J_roadbooklaw07_MeansFinish_1 (i5 : Int) (l6 : List PV) (l7 : List PV) (i8 : Int) (l9 : List PV) (l10 : List PV) (i11 : Int) (l12 : List PV) (l13 : List PV) : Option PV := jF9 [1, 1, 1] (St.mk [(2, (AV.pv (PV.int .i64 i5))), (3, (AV.pv (PV.imm 7 (PV.agg [(PV.slice 0 l6), (PV.slice 6 l7), (PV.int .i64 i8), (PV.slice 0 l9), (PV.slice 0 l10), (PV.int .i64 i11)]) 0))), (4, (AV.pv (PV.imm 3 (PV.agg [(PV.slice 0 l12), (PV.slice 0 l13)]) 0)))] [])
noncomputable def J_roadbooklaw07_MeansFinish_2 (l33 : List PV) (l34 : List PV) (i35 : Int) (l36 : List PV) (l37 : List PV) (i38 : Int) (l39 : List PV) (l40 : List PV) (b41 : Bool) (b42 : Bool) (b43 : Bool) (l44 : List PV) (l45 : List PV) (l46 : List PV) (l47 : List PV) : Option PV := jF9 [1, 0, 1, 1, 1, 1, 1] (St.mk [(3, (AV.pv (PV.imm 7 (PV.agg [(PV.slice 0 l33), (PV.slice 6 l34), (PV.int .i64 i35), (PV.slice 0 l36), (PV.slice 0 l37), (PV.int .i64 i38)]) 0))), (4, (AV.pv (PV.imm 3 (PV.agg [(PV.slice 0 l39), (PV.slice 0 l40)]) 0))), (8, (AV.own 0 0)), (9, (AV.pv (PV.bool b41))), (10, (AV.own 1 0)), (11, (AV.pv (PV.bool b42))), (53, (AV.pv (PV.bool b43)))] [(Ob.var false 3 (AV.pv (PV.agg [(PV.slice 0 l44), (PV.slice 0 l45)]))), (Ob.var false 3 (AV.pv (PV.agg [(PV.slice 0 l46), (PV.slice 0 l47)])))])
theorem J_roadbooklaw07_MeansFinish_1_eq (i5 : Int) (l6 : List PV) (l7 : List PV) (i8 : Int) (l9 : List PV) (l10 : List PV) (i11 : Int) (l12 : List PV) (l13 : List PV) : J_roadbooklaw07_MeansFinish_1 i5 l6 l7 i8 l9 l10 i11 l12 l13 =
  (((wc W n_means_Finish [(PV.agg [(PV.slice 0 l6), (PV.slice 6 l7), (PV.int .i64 i8), (PV.slice 0 l9), (PV.slice 0 l10), (PV.int .i64 i11)]), (PV.agg [(PV.slice 0 l12), (PV.slice 0 l13)])])).bind (fun v14 => (((PV.asTup v14)).bind (fun v15 => (((v15)[0]?).bind (fun v16 => (c_g_s0_s0 v16 (fun v17 v18 => (((PV.asTup v14)).bind (fun v19 => (((v19)[1]?).bind (fun v20 => (c_b v20 (fun v21 => (((wc W n_bag_Sort [(PV.agg [(PV.slice 0 l12), (PV.slice 0 l13)]), (PV.int .i64 i5)])).bind (fun v22 => (c_g_s0_s0 v22 (fun v23 v24 => (((wc W n_means_Finish [(PV.agg [(PV.slice 0 l6), (PV.slice 6 l7), (PV.int .i64 i8), (PV.slice 0 l9), (PV.slice 0 l10), (PV.int .i64 i11)]), (PV.agg [(PV.slice 0 v23), (PV.slice 0 v24)])])).bind (fun v25 => (((PV.asTup v25)).bind (fun v26 => (((v26)[0]?).bind (fun v27 => (c_g_s0_s0 v27 (fun v28 v29 => (((PV.asTup v25)).bind (fun v30 => (((v30)[1]?).bind (fun v31 => (c_b v31 (fun v32 => (bif (!(v21 == v32)) then (J_roadbooklaw07_MeansFinish_2 l6 l7 i8 l9 l10 i11 l12 l13 v21 v32 true v17 v18 v28 v29) else (J_roadbooklaw07_MeansFinish_2 l6 l7 i8 l9 l10 i11 l12 l13 v21 v32 (!v21) v17 v18 v28 v29)))))))))))))))))))))))))))))))))) := (T9.join [1, 1, 1] _).trans (by kernel_rfl)
theorem J_roadbooklaw07_MeansFinish_2_eq (l33 : List PV) (l34 : List PV) (i35 : Int) (l36 : List PV) (l37 : List PV) (i38 : Int) (l39 : List PV) (l40 : List PV) (b41 : Bool) (b42 : Bool) (b43 : Bool) (l44 : List PV) (l45 : List PV) (l46 : List PV) (l47 : List PV) : J_roadbooklaw07_MeansFinish_2 l33 l34 i35 l36 l37 i38 l39 l40 b41 b42 b43 l44 l45 l46 l47 =
  (bif b43 then (bif (b41 == b42) then (some (PV.bool ((((List.length l45) : Nat) : Int) == (0 : Int)))) else (some (PV.bool false))) else (bif (i35 == (-1 : Int)) then (((wc W n_bag_Same [(PV.agg [(PV.slice 0 l44), (PV.slice 0 l45)]), (PV.agg [(PV.slice 0 l46), (PV.slice 0 l47)])])).bind (fun v48 => (c_b v48 (fun v49 => (bif v49 then (bif ((((List.length l45) : Nat) : Int) == (((List.length l40) : Nat) : Int)) then (some (PV.bool ((((List.length l44) : Nat) : Int) == (((List.length l37) : Nat) : Int)))) else (some (PV.bool false))) else (some (PV.bool false))))))) else (((wc W n_bag_Same [(PV.agg [(PV.slice 0 l44), (PV.slice 0 l45)]), (PV.agg [(PV.slice 0 l46), (PV.slice 0 l47)])])).bind (fun v50 => (c_b v50 (fun v51 => (bif v51 then (bif (decide ((((List.length l45) : Nat) : Int) ≤ (((List.length l40) : Nat) : Int))) then (bif ((((List.length l44) : Nat) : Int) == (IntKind.wrap .i64 ((2 : Int) + (((List.length l36) : Nat) : Int) : Int))) then (((l44)[0]?).bind (fun v52 => (c_i64 v52 (fun v53 => (some (PV.bool (v53 == i35))))))) else (some (PV.bool false))) else (some (PV.bool false))) else (some (PV.bool false))))))))) := (T9.join [1, 1, 1, 1, 1, 0, 1] _).trans (by kernel_rfl)
theorem e_roadbooklaw07_MeansFinish (a0_0 : List PV) (a0_1 : List PV) (a0_2 : Int) (a0_3 : List PV) (a0_4 : List PV) (a0_5 : Int) (a1_0 : List PV) (a1_1 : List PV) (a2 : Int) : wc W n_roadbooklaw07_MeansFinish [(PV.agg [(PV.slice 0 a0_0), (PV.slice 6 a0_1), (PV.int .i64 a0_2), (PV.slice 0 a0_3), (PV.slice 0 a0_4), (PV.int .i64 a0_5)]), (PV.agg [(PV.slice 0 a1_0), (PV.slice 0 a1_1)]), (PV.int .i64 a2)] =
  (((wc W n_roadbooklaw07_awake [])).bind (fun v1 => (c_b v1 (fun v2 => (bif (!v2) then (some (PV.bool v2)) else (((wc W n_roadbooklaw03_Far [(PV.agg [(PV.slice 0 a1_0), (PV.slice 0 a1_1)]), (PV.int .i64 (60 : Int))])).bind (fun v3 => (c_i64 v3 (fun v4 => (bif (v4 != (0 : Int)) then (some (PV.bool v2)) else (bif (decide (GT.gt (((List.length a0_4) : Nat) : Int) (20 : Int))) then (some (PV.bool v2)) else (bif (decide (GT.gt (((List.length a0_3) : Nat) : Int) (20 : Int))) then (some (PV.bool v2)) else (J_roadbooklaw07_MeansFinish_1 a2 a0_0 a0_1 a0_2 a0_3 a0_4 a0_5 a1_0 a1_1))))))))))))) := go (by kernel_rfl) (by kernel_rfl) T9 (by kernel_rfl)
noncomputable def jF16 : Jn PV := (Classical.choose (exT fi16 (fin cfg fi16))).1
noncomputable def lF16 : Ln PV := (Classical.choose (exT fi16 (fin cfg fi16))).2
theorem T16 : Tied cfg W fi16 (fin cfg fi16) jF16 lF16 := Classical.choose_spec (exT fi16 (fin cfg fi16))
noncomputable def J_bag_Same_1 (l3 : List PV) (l4 : List PV) (l5 : List PV) (l6 : List PV) : Option PV := jF16 [1, 1] (St.mk [(2, (AV.pv (PV.imm 3 (PV.agg [(PV.slice 0 l3), (PV.slice 0 l4)]) 0))), (3, (AV.pv (PV.imm 3 (PV.agg [(PV.slice 0 l5), (PV.slice 0 l6)]) 0)))] [])
noncomputable def L_bag_Same_2 (l7 : List PV) (l8 : List PV) (l9 : List PV) (l10 : List PV) (i11 : Int) (i12 : Int) (m13 : List (PV × PV)) : Option PV := lF16 [0, 1, 1, 1, 1] 1 (St.mk [(2, (AV.pv (PV.imm 3 (PV.agg [(PV.slice 0 l7), (PV.slice 0 l8)]) 0))), (3, (AV.pv (PV.imm 3 (PV.agg [(PV.slice 0 l9), (PV.slice 0 l10)]) 0))), (5, (AV.mp 0)), (27, (AV.pv (PV.int .i64 i11))), (28, (AV.pv (PV.int .i64 i12)))] [(Ob.map false m13)])
theorem J_bag_Same_1_eq (l3 : List PV) (l4 : List PV) (l5 : List PV) (l6 : List PV) : J_bag_Same_1 l3 l4 l5 l6 =
  (L_bag_Same_2 l3 l4 l5 l6 (((List.length l4) : Nat) : Int) (0 : Int) []) := (T16.join [1, 1] _).trans (by kernel_rfl)
theorem L_bag_Same_2_eq (l7 : List PV) (l8 : List PV) (l9 : List PV) (l10 : List PV) (i11 : Int) (i12 : Int) (m13 : List (PV × PV)) : L_bag_Same_2 l7 l8 l9 l10 i11 i12 m13 =
  (bif (decide (i12 < i11)) then (bif (decide ((0 : Int) ≤ i12)) then (((l8)[(Int.toNat i12)]?).bind (fun v14 => (c_s3 v14 (fun v15 => (((wc W n_bag_text [(PV.slice 3 v15)])).bind (fun v16 => (c_t v16 (fun v17 => (((mfind (eqP Cf.cfg (6 : Nat) (9 : TypeId)) (PV.str v17) m13)).bind (fun v18 => (((intP BinOp.add (Option.getD v18 (PV.int .i64 (0 : Int))) (PV.int .i64 (1 : Int)))).bind (fun v19 => (c_i64 v19 (fun v20 => (((mput (eqP Cf.cfg (6 : Nat) (9 : TypeId)) (PV.str v17) (PV.int .i64 v20) m13)).bind (fun v21 => (bif (decide ((0 : Int) ≤ i12)) then (((l10)[(Int.toNat i12)]?).bind (fun v22 => (c_s3 v22 (fun v23 => (((wc W n_bag_text [(PV.slice 3 v23)])).bind (fun v24 => (c_t v24 (fun v25 => (((mfind (eqP Cf.cfg (6 : Nat) (9 : TypeId)) (PV.str v25) v21)).bind (fun v26 => (((intP BinOp.sub (Option.getD v26 (PV.int .i64 (0 : Int))) (PV.int .i64 (1 : Int)))).bind (fun v27 => (c_i64 v27 (fun v28 => (((mput (eqP Cf.cfg (6 : Nat) (9 : TypeId)) (PV.str v25) (PV.int .i64 v28) v21)).bind (fun v29 => (L_bag_Same_2 l7 l8 l9 l10 i11 (IntKind.wrap .i64 (i12 + (1 : Int) : Int)) v29))))))))))))))))) else none))))))))))))))))) else none) else (((zeros m13)).bind (fun v30 => (some (PV.bool v30))))) := (T16.loop [1, 1, 1, 1, 0] 1 _ rfl).trans (by kernel_rfl)
theorem e_bag_Same (a0_0 : List PV) (a0_1 : List PV) (a1_0 : List PV) (a1_1 : List PV) : wc W n_bag_Same [(PV.agg [(PV.slice 0 a0_0), (PV.slice 0 a0_1)]), (PV.agg [(PV.slice 0 a1_0), (PV.slice 0 a1_1)])] =
  (((wc W n_slices_Equal_int_int [(PV.slice 0 a0_0), (PV.slice 0 a1_0)])).bind (fun v1 => (c_b v1 (fun v2 => (bif (!v2) then (some (PV.bool false)) else (bif ((((List.length a0_1) : Nat) : Int) != (((List.length a1_1) : Nat) : Int)) then (some (PV.bool false)) else (J_bag_Same_1 a0_0 a0_1 a1_0 a1_1))))))) := go (by kernel_rfl) (by kernel_rfl) T16 (by kernel_rfl)
noncomputable def jF18 : Jn PV := (Classical.choose (exT fi18 (fin cfg fi18))).1
noncomputable def lF18 : Ln PV := (Classical.choose (exT fi18 (fin cfg fi18))).2
theorem T18 : Tied cfg W fi18 (fin cfg fi18) jF18 lF18 := Classical.choose_spec (exT fi18 (fin cfg fi18))
theorem e_roadbooklaw07_awake  : wc W n_roadbooklaw07_awake [] =
  (((wc W n_roadbooklaw04_Two [])).bind (fun v1 => (((PV.asTup v1)).bind (fun v2 => (((v2)[0]?).bind (fun v3 => (c_g_s3 v3 (fun v4 => (((PV.asTup v1)).bind (fun v5 => (((v5)[1]?).bind (fun v6 => (c_g_s0 v6 (fun v7 => (((wc W n_means_All [(PV.agg [(PV.slice 3 v4)]), (PV.agg [(PV.slice 0 v7)]), (PV.agg [(PV.slice 0 [(PV.int .i64 (0 : Int))]), (PV.slice 6 [(PV.agg [(PV.int .i64 (7 : Int)), (PV.int .i64 (0 : Int)), (PV.int .i64 (0 : Int)), (PV.int .i64 (0 : Int)), (PV.slice 6 [(PV.agg [(PV.int .i64 (1 : Int)), (PV.int .i64 (0 : Int)), (PV.int .i64 (0 : Int)), (PV.int .i64 (0 : Int)), (PV.slice 6 [])]), (PV.agg [(PV.int .i64 (0 : Int)), (PV.int .i64 (0 : Int)), (PV.int .i64 (0 : Int)), (PV.int .i64 (3 : Int)), (PV.slice 6 [])])])])]), (PV.int .i64 (-1 : Int)), (PV.slice 0 []), (PV.slice 0 [(PV.int .i64 (1 : Int))]), (PV.int .i64 (-1 : Int))])])).bind (fun v8 => (((PV.asTup v8)).bind (fun v9 => (((v9)[0]?).bind (fun v10 => (c_g_s0_s0 v10 (fun v11 v12 => (((PV.asTup v8)).bind (fun v13 => (((v13)[1]?).bind (fun v14 => (c_b v14 (fun v15 => (bif v15 then (((wc W n_roadbookref03_Like [(PV.agg [(PV.slice 0 v11), (PV.slice 0 v12)]), (PV.agg [(PV.slice 0 [(PV.int .i64 (1 : Int))]), (PV.slice 0 [(PV.slice 3 [(PV.agg [(PV.int .i64 (0 : Int)), (PV.int .i64 (2 : Int))])])])])])).bind (fun v16 => (c_b v16 (fun v17 => (bif v17 then (((wc W n_means_Right [(PV.agg [(PV.slice 3 v4)]), (PV.agg [(PV.slice 0 v7)]), (PV.agg [(PV.slice 0 [(PV.int .i64 (0 : Int))]), (PV.slice 6 [(PV.agg [(PV.int .i64 (7 : Int)), (PV.int .i64 (0 : Int)), (PV.int .i64 (0 : Int)), (PV.int .i64 (0 : Int)), (PV.slice 6 [(PV.agg [(PV.int .i64 (1 : Int)), (PV.int .i64 (0 : Int)), (PV.int .i64 (0 : Int)), (PV.int .i64 (0 : Int)), (PV.slice 6 [])]), (PV.agg [(PV.int .i64 (0 : Int)), (PV.int .i64 (0 : Int)), (PV.int .i64 (0 : Int)), (PV.int .i64 (3 : Int)), (PV.slice 6 [])])])])]), (PV.int .i64 (-1 : Int)), (PV.slice 0 []), (PV.slice 0 [(PV.int .i64 (1 : Int))]), (PV.int .i64 (-1 : Int))]), (PV.agg [(PV.slice 0 [(PV.int .i64 (1 : Int))]), (PV.slice 0 [(PV.slice 3 [(PV.agg [(PV.int .i64 (0 : Int)), (PV.int .i64 (2 : Int))])])])])])).bind (fun v18 => (c_b v18 (fun v19 => (bif v19 then (((wc W n_means_Right [(PV.agg [(PV.slice 3 v4)]), (PV.agg [(PV.slice 0 v7)]), (PV.agg [(PV.slice 0 [(PV.int .i64 (0 : Int))]), (PV.slice 6 [(PV.agg [(PV.int .i64 (7 : Int)), (PV.int .i64 (0 : Int)), (PV.int .i64 (0 : Int)), (PV.int .i64 (0 : Int)), (PV.slice 6 [(PV.agg [(PV.int .i64 (1 : Int)), (PV.int .i64 (0 : Int)), (PV.int .i64 (0 : Int)), (PV.int .i64 (0 : Int)), (PV.slice 6 [])]), (PV.agg [(PV.int .i64 (0 : Int)), (PV.int .i64 (0 : Int)), (PV.int .i64 (0 : Int)), (PV.int .i64 (3 : Int)), (PV.slice 6 [])])])])]), (PV.int .i64 (-1 : Int)), (PV.slice 0 []), (PV.slice 0 [(PV.int .i64 (1 : Int))]), (PV.int .i64 (-1 : Int))]), (PV.agg [(PV.slice 0 [(PV.int .i64 (1 : Int))]), (PV.slice 0 [])])])).bind (fun v20 => (c_b v20 (fun v21 => (some (PV.bool (!v21))))))) else (some (PV.bool false))))))) else (some (PV.bool false))))))) else (some (PV.bool false))))))))))))))))))))))))))))))) := go (by kernel_rfl) (by kernel_rfl) T18 (by kernel_rfl)
noncomputable def jF30 : Jn PV := (Classical.choose (exT fi30 (fin cfg fi30))).1
noncomputable def lF30 : Ln PV := (Classical.choose (exT fi30 (fin cfg fi30))).2
theorem T30 : Tied cfg W fi30 (fin cfg fi30) jF30 lF30 := Classical.choose_spec (exT fi30 (fin cfg fi30))
theorem e_roadbooklaw03_Far (a0_0 : List PV) (a0_1 : List PV) (a1 : Int) : wc W n_roadbooklaw03_Far [(PV.agg [(PV.slice 0 a0_0), (PV.slice 0 a0_1)]), (PV.int .i64 a1)] =
  (((wc W n_roadbooklaw03_few [(PV.agg [(PV.slice 0 a0_0), (PV.slice 0 a0_1)]), (PV.int .i64 a1)])).bind (fun v1 => (c_b v1 (fun v2 => (bif v2 then (some (PV.int .i64 (0 : Int))) else (some (PV.int .i64 (1 : Int)))))))) := go (by kernel_rfl) (by kernel_rfl) T30 (by kernel_rfl)
noncomputable def jF32 : Jn PV := (Classical.choose (exT fi32 (fin cfg fi32))).1
noncomputable def lF32 : Ln PV := (Classical.choose (exT fi32 (fin cfg fi32))).2
theorem T32 : Tied cfg W fi32 (fin cfg fi32) jF32 lF32 := Classical.choose_spec (exT fi32 (fin cfg fi32))
theorem e_means_Finish (a0_0 : List PV) (a0_1 : List PV) (a0_2 : Int) (a0_3 : List PV) (a0_4 : List PV) (a0_5 : Int) (a1_0 : List PV) (a1_1 : List PV) : wc W n_means_Finish [(PV.agg [(PV.slice 0 a0_0), (PV.slice 6 a0_1), (PV.int .i64 a0_2), (PV.slice 0 a0_3), (PV.slice 0 a0_4), (PV.int .i64 a0_5)]), (PV.agg [(PV.slice 0 a1_0), (PV.slice 0 a1_1)])] =
  (bif (a0_2 != (-1 : Int)) then (((wc W n_bag_Group [(PV.agg [(PV.slice 0 a1_0), (PV.slice 0 a1_1)]), (PV.int .i64 a0_2), (PV.slice 0 a0_3)])).bind (fun v1 => (((PV.asTup v1)).bind (fun v2 => (((v2)[0]?).bind (fun v3 => (c_g_s0_s0 v3 (fun v4 v5 => (((PV.asTup v1)).bind (fun v6 => (((v6)[1]?).bind (fun v7 => (c_b v7 (fun v8 => (some (PV.tup [(PV.agg [(PV.slice 0 v4), (PV.slice 0 v5)]), (PV.bool v8)])))))))))))))))) else (((wc W n_bag_Pick [(PV.agg [(PV.slice 0 a1_0), (PV.slice 0 a1_1)]), (PV.slice 0 a0_4)])).bind (fun v9 => (((PV.asTup v9)).bind (fun v10 => (((v10)[0]?).bind (fun v11 => (c_g_s0_s0 v11 (fun v12 v13 => (((PV.asTup v9)).bind (fun v14 => (((v14)[1]?).bind (fun v15 => (c_b v15 (fun v16 => (some (PV.tup [(PV.agg [(PV.slice 0 v12), (PV.slice 0 v13)]), (PV.bool v16)]))))))))))))))))) := go (by kernel_rfl) (by kernel_rfl) T32 (by kernel_rfl)
noncomputable def jF39 : Jn PV := (Classical.choose (exT fi39 (fin cfg fi39))).1
noncomputable def lF39 : Ln PV := (Classical.choose (exT fi39 (fin cfg fi39))).2
theorem T39 : Tied cfg W fi39 (fin cfg fi39) jF39 lF39 := Classical.choose_spec (exT fi39 (fin cfg fi39))
noncomputable def J_bag_Pick_1 (l5 : List PV) (l6 : List PV) (l7 : List PV) : Option PV := jF39 [1, 1] (St.mk [(1, (AV.pv (PV.slice 0 l5))), (2, (AV.pv (PV.imm 3 (PV.agg [(PV.slice 0 l6), (PV.slice 0 l7)]) 0))), (4, (AV.own 0 0))] [(Ob.var false 3 (AV.agg [(AV.nil 0), (AV.nil 0)]))])
noncomputable def L_bag_Pick_2 (l8 : List PV) (l9 : List PV) (l10 : List PV) (l11 : List PV) (i12 : Int) (i13 : Int) (l14 : List PV) : Option PV := lF39 [0, 1, 0, 1, 1, 1] 2 (St.mk [(1, (AV.pv (PV.slice 0 l8))), (2, (AV.pv (PV.imm 3 (PV.agg [(PV.slice 0 l9), (PV.slice 0 l10)]) 0))), (4, (AV.own 0 0)), (6, (AV.view 1 0 none)), (26, (AV.pv (PV.slice 0 l11))), (27, (AV.pv (PV.int .i64 i12))), (28, (AV.pv (PV.int .i64 i13)))] [(Ob.var false 3 (AV.agg [(AV.nil 0), (AV.nil 0)])), (Ob.row false 0 0 l14)])
noncomputable def L_bag_Pick_3 (l21 : List PV) (i22 : Int) (i23 : Int) (l24 : List PV) (l25 : List PV) (l26 : List PV) (l27 : List PV) (l28 : List PV) : Option PV := lF39 [0, 1, 0, 1, 1, 1, 1, 1] 6 (St.mk [(4, (AV.own 0 0)), (6, (AV.view 1 0 none)), (10, (AV.own 4 0)), (48, (AV.pv (PV.slice 0 l21))), (49, (AV.pv (PV.int .i64 i22))), (50, (AV.pv (PV.int .i64 i23)))] [(Ob.var false 3 (AV.agg [(AV.nil 0), (AV.nil 0)])), (Ob.row false 0 0 l24), (Ob.row false 0 0 l25), (Ob.row false 0 0 l26), (Ob.var false 3 (AV.agg [(AV.pv (PV.slice 0 l27)), (AV.view 5 0 none)])), (Ob.row false 0 0 l28)])
noncomputable def L_bag_Pick_4 (l31 : List PV) (l32 : List PV) (i33 : Int) (i34 : Int) (i35 : Int) (i36 : Int) (l37 : List PV) (l38 : List PV) (l39 : List PV) (l40 : List PV) (l41 : List PV) (l42 : List PV) : Option PV := lF39 [0, 1, 0, 1, 1, 0, 0, 1, 1, 6, 0, 1, 0, 1, 1, 1, 1, 1] 7 (St.mk [(4, (AV.own 0 0)), (6, (AV.view 1 0 none)), (10, (AV.own 4 0)), (12, (AV.pv (PV.slice 3 l31))), (13, (AV.view 6 0 none)), (48, (AV.pv (PV.slice 0 l32))), (49, (AV.pv (PV.int .i64 i33))), (50, (AV.pv (PV.int .i64 i34))), (54, (AV.view 1 0 none)), (55, (AV.pv (PV.int .i64 i35))), (56, (AV.pv (PV.int .i64 i36)))] [(Ob.var false 3 (AV.agg [(AV.nil 0), (AV.nil 0)])), (Ob.row false 0 0 l37), (Ob.row false 0 0 l38), (Ob.row false 0 0 l39), (Ob.var false 3 (AV.agg [(AV.pv (PV.slice 0 l40)), (AV.view 5 0 none)])), (Ob.row false 0 0 l41), (Ob.row false 0 3 l42)])
theorem J_bag_Pick_1_eq (l5 : List PV) (l6 : List PV) (l7 : List PV) : J_bag_Pick_1 l5 l6 l7 =
  (L_bag_Pick_2 l5 l6 l7 l5 (((List.length l5) : Nat) : Int) (0 : Int) []) := (T39.join [1, 1] _).trans (by kernel_rfl)
theorem L_bag_Pick_2_eq (l8 : List PV) (l9 : List PV) (l10 : List PV) (l11 : List PV) (i12 : Int) (i13 : Int) (l14 : List PV) : L_bag_Pick_2 l8 l9 l10 l11 i12 i13 l14 =
  (bif (decide (i13 < i12)) then (bif (decide ((0 : Int) ≤ i13)) then (((l11)[(Int.toNat i13)]?).bind (fun v15 => (c_i64 v15 (fun v16 => (((wc W n_slices_Index_int_int [(PV.slice 0 l9), (PV.int .i64 v16)])).bind (fun v17 => (c_i64 v17 (fun v18 => (bif (decide (v18 < (0 : Int))) then (some (PV.tup [(PV.agg [(PV.slice 0 []), (PV.slice 0 [])]), (PV.bool false)])) else (bif (true && (decide (((List.length l14) + 1 : Nat) ≤ 4294967296))) then (L_bag_Pick_2 l8 l9 l10 l11 i12 (IntKind.wrap .i64 (i13 + (1 : Int) : Int)) (l14 ++ [(PV.int .i64 v18)])) else none)))))))))) else none) else (((wc W n_slices_Clone_int_int [(PV.slice 0 l8)])).bind (fun v19 => (c_s0 v19 (fun v20 => (L_bag_Pick_3 l10 (((List.length l10) : Nat) : Int) (0 : Int) l14 [] [] v20 [])))))) := (T39.loop [1, 1, 1, 0, 1, 0] 2 _ rfl).trans (by kernel_rfl)
theorem L_bag_Pick_3_eq (l21 : List PV) (i22 : Int) (i23 : Int) (l24 : List PV) (l25 : List PV) (l26 : List PV) (l27 : List PV) (l28 : List PV) : L_bag_Pick_3 l21 i22 i23 l24 l25 l26 l27 l28 =
  (bif (decide (i23 < i22)) then (bif (decide ((0 : Int) ≤ i23)) then (((l21)[(Int.toNat i23)]?).bind (fun v29 => (c_s3 v29 (fun v30 => (L_bag_Pick_4 v30 l21 i22 i23 (((List.length l24) : Nat) : Int) (0 : Int) l24 l25 l26 l27 l28 []))))) else none) else (some (PV.tup [(PV.agg [(PV.slice 0 l27), (PV.slice 0 l28)]), (PV.bool true)]))) := (T39.loop [1, 1, 1, 1, 1, 0, 1, 0] 6 _ rfl).trans (by kernel_rfl)
theorem L_bag_Pick_4_eq (l31 : List PV) (l32 : List PV) (i33 : Int) (i34 : Int) (i35 : Int) (i36 : Int) (l37 : List PV) (l38 : List PV) (l39 : List PV) (l40 : List PV) (l41 : List PV) (l42 : List PV) : L_bag_Pick_4 l31 l32 i33 i34 i35 i36 l37 l38 l39 l40 l41 l42 =
  (bif (decide (i36 < i35)) then (bif ((true && (decide ((0 : Int) ≤ i36))) && (decide (i36 < (((List.length l37) : Nat) : Int)))) then (((l37)[(0 + (Int.toNat i36) : Nat)]?).bind (fun v43 => (c_i64 v43 (fun v44 => (bif (decide ((0 : Int) ≤ v44)) then (((l31)[(Int.toNat v44)]?).bind (fun v45 => (c_g_i64_i64 v45 (fun v46 v47 => (bif (true && (decide (((List.length l42) + 1 : Nat) ≤ 4294967296))) then (L_bag_Pick_4 l31 l32 i33 i34 i35 (IntKind.wrap .i64 (i36 + (1 : Int) : Int)) l37 l38 l39 l40 l41 (l42 ++ [(PV.agg [(PV.int .i64 v46), (PV.int .i64 v47)])])) else none))))) else none))))) else none) else (bif (true && (decide (((List.length l41) + 1 : Nat) ≤ 4294967296))) then (L_bag_Pick_3 l32 i33 (IntKind.wrap .i64 (i34 + (1 : Int) : Int)) l37 l38 l39 l40 (l41 ++ [(PV.slice 3 l42)])) else none)) := (T39.loop [1, 1, 1, 1, 1, 0, 1, 0, 6, 1, 1, 0, 0, 1, 1, 0, 1, 0] 7 _ rfl).trans (by kernel_rfl)
theorem e_bag_Pick (a0_0 : List PV) (a0_1 : List PV) (a1 : List PV) : wc W n_bag_Pick [(PV.agg [(PV.slice 0 a0_0), (PV.slice 0 a0_1)]), (PV.slice 0 a1)] =
  (((wc W n_bag_May [(PV.agg [(PV.slice 0 a0_0), (PV.slice 0 a0_1)])])).bind (fun v1 => (c_b v1 (fun v2 => (bif (!v2) then (some (PV.tup [(PV.agg [(PV.slice 0 []), (PV.slice 0 [])]), (PV.bool false)])) else (((wc W n_bag_May [(PV.agg [(PV.slice 0 a1), (PV.slice 0 [])])])).bind (fun v3 => (c_b v3 (fun v4 => (bif (!v4) then (some (PV.tup [(PV.agg [(PV.slice 0 []), (PV.slice 0 [])]), (PV.bool false)])) else (J_bag_Pick_1 a1 a0_0 a0_1))))))))))) := go (by kernel_rfl) (by kernel_rfl) T39 (by kernel_rfl)
noncomputable def jF41 : Jn PV := (Classical.choose (exT fi41 (fin cfg fi41))).1
noncomputable def lF41 : Ln PV := (Classical.choose (exT fi41 (fin cfg fi41))).2
theorem T41 : Tied cfg W fi41 (fin cfg fi41) jF41 lF41 := Classical.choose_spec (exT fi41 (fin cfg fi41))
noncomputable def L_bag_May_1 (l1 : List PV) (l2 : List PV) (l3 : List PV) (i4 : Int) (i5 : Int) (b6 : Bool) (b7 : Bool) (b8 : Bool) (b9 : Bool) (b10 : Bool) (b11 : Bool) (b12 : Bool) (b13 : Bool) (b14 : Bool) (b15 : Bool) (b16 : Bool) (b17 : Bool) (b18 : Bool) (b19 : Bool) (b20 : Bool) (b21 : Bool) : Option PV := lF41 [0, 1, 0, 1, 1] 1 (St.mk [(1, (AV.pv (PV.imm 3 (PV.agg [(PV.slice 0 l1), (PV.slice 0 l2)]) 0))), (3, (AV.own 0 0)), (10, (AV.pv (PV.slice 0 l3))), (11, (AV.pv (PV.int .i64 i4))), (12, (AV.pv (PV.int .i64 i5)))] [(Ob.var false 17 (AV.pv (PV.agg [(PV.bool b6), (PV.bool b7), (PV.bool b8), (PV.bool b9), (PV.bool b10), (PV.bool b11), (PV.bool b12), (PV.bool b13), (PV.bool b14), (PV.bool b15), (PV.bool b16), (PV.bool b17), (PV.bool b18), (PV.bool b19), (PV.bool b20), (PV.bool b21)])))])
noncomputable def L_bag_May_2 (l26 : List PV) (l27 : List PV) (l28 : List PV) (i29 : Int) (i30 : Int) (b31 : Bool) (b32 : Bool) (b33 : Bool) (b34 : Bool) (b35 : Bool) (b36 : Bool) (b37 : Bool) (b38 : Bool) (b39 : Bool) (b40 : Bool) (b41 : Bool) (b42 : Bool) (b43 : Bool) (b44 : Bool) (b45 : Bool) (b46 : Bool) : Option PV := lF41 [0, 1, 0, 1, 1, 1, 1] 1 (St.mk [(1, (AV.pv (PV.imm 3 (PV.agg [(PV.slice 0 l26), (PV.slice 0 l27)]) 0))), (6, (AV.pv (PV.fn n_bag_May_1 [] []))), (31, (AV.pv (PV.slice 0 l28))), (32, (AV.pv (PV.int .i64 i29))), (33, (AV.pv (PV.int .i64 i30)))] [(Ob.var false 17 (AV.pv (PV.agg [(PV.bool b31), (PV.bool b32), (PV.bool b33), (PV.bool b34), (PV.bool b35), (PV.bool b36), (PV.bool b37), (PV.bool b38), (PV.bool b39), (PV.bool b40), (PV.bool b41), (PV.bool b42), (PV.bool b43), (PV.bool b44), (PV.bool b45), (PV.bool b46)])))])
theorem L_bag_May_1_eq (l1 : List PV) (l2 : List PV) (l3 : List PV) (i4 : Int) (i5 : Int) (b6 : Bool) (b7 : Bool) (b8 : Bool) (b9 : Bool) (b10 : Bool) (b11 : Bool) (b12 : Bool) (b13 : Bool) (b14 : Bool) (b15 : Bool) (b16 : Bool) (b17 : Bool) (b18 : Bool) (b19 : Bool) (b20 : Bool) (b21 : Bool) : L_bag_May_1 l1 l2 l3 i4 i5 b6 b7 b8 b9 b10 b11 b12 b13 b14 b15 b16 b17 b18 b19 b20 b21 =
  (bif (decide (i5 < i4)) then (bif (decide ((0 : Int) ≤ i5)) then (((l3)[(Int.toNat i5)]?).bind (fun v22 => (c_i64 v22 (fun v23 => (bif (decide (v23 < (0 : Int))) then (some (PV.bool false)) else (bif (decide (GT.gt v23 (15 : Int))) then (some (PV.bool false)) else (bif ((decide ((0 : Int) ≤ v23)) && (decide (v23 < (16 : Int)))) then (((PV.load 17 (PV.agg [(PV.bool b6), (PV.bool b7), (PV.bool b8), (PV.bool b9), (PV.bool b10), (PV.bool b11), (PV.bool b12), (PV.bool b13), (PV.bool b14), (PV.bool b15), (PV.bool b16), (PV.bool b17), (PV.bool b18), (PV.bool b19), (PV.bool b20), (PV.bool b21)]) (0 + ((Int.toNat v23) * 1 : Nat) : Nat) 0)).bind (fun v24 => (c_b v24 (fun v25 => (bif v25 then (some (PV.bool false)) else (bif ((decide ((0 : Int) ≤ v23)) && (decide (v23 < (16 : Int)))) then (bif ((decide (((0 + ((Int.toNat v23) * 1 : Nat) : Nat) + 1 : Nat) ≤ 16)) && true) then (L_bag_May_1 l1 l2 l3 i4 (IntKind.wrap .i64 (i5 + (1 : Int) : Int)) (bif (0 == (0 + ((Int.toNat v23) * 1 : Nat) : Nat)) then true else b6) (bif (1 == (0 + ((Int.toNat v23) * 1 : Nat) : Nat)) then true else b7) (bif (2 == (0 + ((Int.toNat v23) * 1 : Nat) : Nat)) then true else b8) (bif (3 == (0 + ((Int.toNat v23) * 1 : Nat) : Nat)) then true else b9) (bif (4 == (0 + ((Int.toNat v23) * 1 : Nat) : Nat)) then true else b10) (bif (5 == (0 + ((Int.toNat v23) * 1 : Nat) : Nat)) then true else b11) (bif (6 == (0 + ((Int.toNat v23) * 1 : Nat) : Nat)) then true else b12) (bif (7 == (0 + ((Int.toNat v23) * 1 : Nat) : Nat)) then true else b13) (bif (8 == (0 + ((Int.toNat v23) * 1 : Nat) : Nat)) then true else b14) (bif (9 == (0 + ((Int.toNat v23) * 1 : Nat) : Nat)) then true else b15) (bif (10 == (0 + ((Int.toNat v23) * 1 : Nat) : Nat)) then true else b16) (bif (11 == (0 + ((Int.toNat v23) * 1 : Nat) : Nat)) then true else b17) (bif (12 == (0 + ((Int.toNat v23) * 1 : Nat) : Nat)) then true else b18) (bif (13 == (0 + ((Int.toNat v23) * 1 : Nat) : Nat)) then true else b19) (bif (14 == (0 + ((Int.toNat v23) * 1 : Nat) : Nat)) then true else b20) (bif (15 == (0 + ((Int.toNat v23) * 1 : Nat) : Nat)) then true else b21)) else none) else none)))))) else none))))))) else none) else (L_bag_May_2 l1 l2 l2 (((List.length l2) : Nat) : Int) (0 : Int) b6 b7 b8 b9 b10 b11 b12 b13 b14 b15 b16 b17 b18 b19 b20 b21)) := (T41.loop [1, 1, 0, 1, 0] 1 _ rfl).trans (by kernel_rfl)
theorem L_bag_May_2_eq (l26 : List PV) (l27 : List PV) (l28 : List PV) (i29 : Int) (i30 : Int) (b31 : Bool) (b32 : Bool) (b33 : Bool) (b34 : Bool) (b35 : Bool) (b36 : Bool) (b37 : Bool) (b38 : Bool) (b39 : Bool) (b40 : Bool) (b41 : Bool) (b42 : Bool) (b43 : Bool) (b44 : Bool) (b45 : Bool) (b46 : Bool) : L_bag_May_2 l26 l27 l28 i29 i30 b31 b32 b33 b34 b35 b36 b37 b38 b39 b40 b41 b42 b43 b44 b45 b46 =
  (bif (decide (i30 < i29)) then (bif (decide ((0 : Int) ≤ i30)) then (((l28)[(Int.toNat i30)]?).bind (fun v47 => (c_s3 v47 (fun v48 => (bif ((((List.length v48) : Nat) : Int) != (((List.length l26) : Nat) : Int)) then (some (PV.bool false)) else (((wc W n_slices_ContainsFunc_api_Val_api_Val_c5fc [(PV.slice 3 v48), (PV.fn n_bag_May_1 [] [])])).bind (fun v49 => (c_b v49 (fun v50 => (bif v50 then (some (PV.bool false)) else (L_bag_May_2 l26 l27 l28 i29 (IntKind.wrap .i64 (i30 + (1 : Int) : Int)) b31 b32 b33 b34 b35 b36 b37 b38 b39 b40 b41 b42 b43 b44 b45 b46))))))))))) else none) else (some (PV.bool (decide ((((List.length l27) : Nat) : Int) ≤ (5000 : Int)))))) := (T41.loop [1, 1, 1, 1, 0, 1, 0] 1 _ rfl).trans (by kernel_rfl)
theorem e_bag_May (a0_0 : List PV) (a0_1 : List PV) : wc W n_bag_May [(PV.agg [(PV.slice 0 a0_0), (PV.slice 0 a0_1)])] =
  (L_bag_May_1 a0_0 a0_1 a0_0 (((List.length a0_0) : Nat) : Int) (0 : Int) false false false false false false false false false false false false false false false false) := go (by kernel_rfl) (by kernel_rfl) T41 (by kernel_rfl)
noncomputable def jF43 : Jn PV := (Classical.choose (exT fi43 (fin cfg fi43))).1
noncomputable def lF43 : Ln PV := (Classical.choose (exT fi43 (fin cfg fi43))).2
theorem T43 : Tied cfg W fi43 (fin cfg fi43) jF43 lF43 := Classical.choose_spec (exT fi43 (fin cfg fi43))
theorem e_bag_Sort (a0_0 : List PV) (a0_1 : List PV) (a1 : Int) : wc W n_bag_Sort [(PV.agg [(PV.slice 0 a0_0), (PV.slice 0 a0_1)]), (PV.int .i64 a1)] =
  (((W n_bag_some true [(AV.pv (PV.agg [(PV.slice 0 a0_0), (PV.slice 0 a0_1)])), (AV.pv (PV.fn n_bag_Sort_1 [] []))] [])).bind (fun v3 => (k_8de13e v3 (fun v4 v5 => (((wc W n_slices_Index_int_int [(PV.slice 0 a0_0), (PV.int .i64 a1)])).bind (fun v6 => (c_i64 v6 (fun v7 => (((W n_slices_SortStableFunc_api_Val_api_Val false [(AV.fx 0 0), (AV.fnv n_bag_Sort_2 [] [(AV.own 1 0)])] [(Ob.fix 0 0 v5), (Ob.var false 0 (AV.pv (PV.int .i64 v7)))])).bind (fun v10 => (k_c4d914 v10 (fun v11 v12 v13 => (some (PV.agg [(PV.slice 0 v4), (PV.slice 0 v12)])))))))))))))) := go (by kernel_rfl) (by kernel_rfl) T43 (by kernel_rfl)
noncomputable def jF52 : Jn PV := (Classical.choose (exT fi52 (fin cfg fi52))).1
noncomputable def lF52 : Ln PV := (Classical.choose (exT fi52 (fin cfg fi52))).2
theorem T52 : Tied cfg W fi52 (fin cfg fi52) jF52 lF52 := Classical.choose_spec (exT fi52 (fin cfg fi52))
noncomputable def L_slices_Equal_int_int_1 (l1 : List PV) (l2 : List PV) (i3 : Int) (i4 : Int) : Option PV := lF52 [0, 1, 0, 1, 1] 0 (St.mk [(0, (AV.pv (PV.slice 0 l1))), (1, (AV.pv (PV.slice 0 l2))), (12, (AV.pv (PV.int .i64 i3))), (13, (AV.pv (PV.int .i64 i4)))] [])
theorem L_slices_Equal_int_int_1_eq (l1 : List PV) (l2 : List PV) (i3 : Int) (i4 : Int) : L_slices_Equal_int_int_1 l1 l2 i3 i4 =
  (bif (decide (i4 < i3)) then (bif (decide ((0 : Int) ≤ i4)) then (((l1)[(Int.toNat i4)]?).bind (fun v5 => (c_i64 v5 (fun v6 => (bif (decide ((0 : Int) ≤ i4)) then (((l2)[(Int.toNat i4)]?).bind (fun v7 => (c_i64 v7 (fun v8 => (bif (v6 != v8) then (some (PV.bool false)) else (L_slices_Equal_int_int_1 l1 l2 i3 (IntKind.wrap .i64 (i4 + (1 : Int) : Int)))))))) else none))))) else none) else (some (PV.bool true))) := (T52.loop [1, 1, 0, 1, 0] 0 _ rfl).trans (by kernel_rfl)
theorem e_slices_Equal_int_int (a0 : List PV) (a1 : List PV) : wc W n_slices_Equal_int_int [(PV.slice 0 a0), (PV.slice 0 a1)] =
  (bif ((((List.length a0) : Nat) : Int) != (((List.length a1) : Nat) : Int)) then (some (PV.bool false)) else (L_slices_Equal_int_int_1 a0 a1 (((List.length a0) : Nat) : Int) (0 : Int))) := go (by kernel_rfl) (by kernel_rfl) T52 (by kernel_rfl)
noncomputable def jF54 : Jn PV := (Classical.choose (exT fi54 (fin cfg fi54))).1
noncomputable def lF54 : Ln PV := (Classical.choose (exT fi54 (fin cfg fi54))).2
theorem T54 : Tied cfg W fi54 (fin cfg fi54) jF54 lF54 := Classical.choose_spec (exT fi54 (fin cfg fi54))
noncomputable def L_slices_Index_int_int_1 (l1 : List PV) (i2 : Int) (i3 : Int) (i4 : Int) : Option PV := lF54 [0, 1, 0, 1] 0 (St.mk [(0, (AV.pv (PV.slice 0 l1))), (1, (AV.pv (PV.int .i64 i2))), (7, (AV.pv (PV.int .i64 i3))), (8, (AV.pv (PV.int .i64 i4)))] [])
theorem L_slices_Index_int_int_1_eq (l1 : List PV) (i2 : Int) (i3 : Int) (i4 : Int) : L_slices_Index_int_int_1 l1 i2 i3 i4 =
  (bif (decide (i4 < i3)) then (bif (decide ((0 : Int) ≤ i4)) then (((l1)[(Int.toNat i4)]?).bind (fun v5 => (c_i64 v5 (fun v6 => (bif (i2 == v6) then (some (PV.int .i64 i4)) else (L_slices_Index_int_int_1 l1 i2 i3 (IntKind.wrap .i64 (i4 + (1 : Int) : Int)))))))) else none) else (some (PV.int .i64 (-1 : Int)))) := (T54.loop [1, 0, 1, 0] 0 _ rfl).trans (by kernel_rfl)
theorem e_slices_Index_int_int (a0 : List PV) (a1 : Int) : wc W n_slices_Index_int_int [(PV.slice 0 a0), (PV.int .i64 a1)] =
  (L_slices_Index_int_int_1 a0 a1 (((List.length a0) : Nat) : Int) (0 : Int)) := go (by kernel_rfl) (by kernel_rfl) T54 (by kernel_rfl)
noncomputable def jF57 : Jn PV := (Classical.choose (exT fi57 (fin cfg fi57))).1
noncomputable def lF57 : Ln PV := (Classical.choose (exT fi57 (fin cfg fi57))).2
theorem T57 : Tied cfg W fi57 (fin cfg fi57) jF57 lF57 := Classical.choose_spec (exT fi57 (fin cfg fi57))
theorem e_bag_compare (a0_0 : Int) (a0_1 : Int) (a1_0 : Int) (a1_1 : Int) : wc W n_bag_compare [(PV.agg [(PV.int .i64 a0_0), (PV.int .i64 a0_1)]), (PV.agg [(PV.int .i64 a1_0), (PV.int .i64 a1_1)])] =
  (((((bif (a0_0 == a1_0) then (bif (a0_1 == a1_1) then (some true) else (some false)) else (some false))).bind (fun v1 => (some (PV.bool v1))))).bind (fun v2 => (c_b v2 (fun v3 => (bif v3 then (some (PV.int .i64 (0 : Int))) else (((wc W n_slices_Compare_int_int [(PV.slice 0 [(PV.int .i64 a0_0), (PV.int .i64 a0_1)]), (PV.slice 0 [(PV.int .i64 a1_0), (PV.int .i64 a1_1)])])).bind (fun v4 => (c_i64 v4 (fun v5 => (some (PV.int .i64 v5))))))))))) := go (by kernel_rfl) (by kernel_rfl) T57 (by kernel_rfl)
noncomputable def jF58 : Jn PV := (Classical.choose (exT fi58 (fin cfg fi58))).1
noncomputable def lF58 : Ln PV := (Classical.choose (exT fi58 (fin cfg fi58))).2
theorem T58 : Tied cfg W fi58 (fin cfg fi58) jF58 lF58 := Classical.choose_spec (exT fi58 (fin cfg fi58))
noncomputable def J_bag_of_1 (l1 : List PV) (i2 : Int) (i3 : Int) (i4 : Int) : Option PV := jF58 [1, 1] (St.mk [(0, (AV.pv (PV.slice 3 l1))), (1, (AV.pv (PV.int .i64 i2))), (4, (AV.own 0 0))] [(Ob.var false 3 (AV.pv (PV.agg [(PV.int .i64 i3), (PV.int .i64 i4)])))])
noncomputable def J_bag_of_2 (i10 : Int) (i11 : Int) (i12 : Int) (i13 : Int) : Option PV := jF58 [1, 1, 1, 1] (St.mk [(4, (AV.own 0 0)), (5, (AV.own 1 0))] [(Ob.var false 3 (AV.pv (PV.agg [(PV.int .i64 i10), (PV.int .i64 i11)]))), (Ob.var false 3 (AV.pv (PV.agg [(PV.int .i64 i12), (PV.int .i64 i13)])))])
theorem J_bag_of_1_eq (l1 : List PV) (i2 : Int) (i3 : Int) (i4 : Int) : J_bag_of_1 l1 i2 i3 i4 =
  (bif (decide ((0 : Int) ≤ i2)) then (((l1)[(Int.toNat i2)]?).bind (fun v5 => (c_g_i64_i64 v5 (fun v6 v7 => (((wc W n_val_May [(PV.agg [(PV.int .i64 v6), (PV.int .i64 v7)])])).bind (fun v8 => (c_b v8 (fun v9 => (bif (!v9) then (J_bag_of_2 i3 i4 (2 : Int) (0 : Int)) else (J_bag_of_2 i3 i4 v6 v7)))))))))) else none) := (T58.join [1, 1] _).trans (by kernel_rfl)
theorem J_bag_of_2_eq (i10 : Int) (i11 : Int) (i12 : Int) (i13 : Int) : J_bag_of_2 i10 i11 i12 i13 =
  (some (PV.agg [(PV.int .i64 i12), (PV.int .i64 i13)])) := (T58.join [1, 1, 1, 1] _).trans (by kernel_rfl)
theorem e_bag_of (a0 : List PV) (a1 : Int) : wc W n_bag_of [(PV.slice 3 a0), (PV.int .i64 a1)] =
  (bif (decide (a1 < (0 : Int))) then (some (PV.agg [(PV.int .i64 (0 : Int)), (PV.int .i64 (0 : Int))])) else (bif (decide (GE.ge a1 (((List.length a0) : Nat) : Int))) then (some (PV.agg [(PV.int .i64 (0 : Int)), (PV.int .i64 (0 : Int))])) else (J_bag_of_1 a0 a1 (0 : Int) (0 : Int)))) := go (by kernel_rfl) (by kernel_rfl) T58 (by kernel_rfl)
noncomputable def jF68 : Jn PV := (Classical.choose (exT fi68 (fin cfg fi68))).1
noncomputable def lF68 : Ln PV := (Classical.choose (exT fi68 (fin cfg fi68))).2
theorem T68 : Tied cfg W fi68 (fin cfg fi68) jF68 lF68 := Classical.choose_spec (exT fi68 (fin cfg fi68))
theorem e_slices_ContainsFunc_int_int (a0 : List PV) (a1 : PV) : wc W n_slices_ContainsFunc_int_int [(PV.slice 0 a0), a1] =
  (((wc W n_slices_IndexFunc_int_int [(PV.slice 0 a0), a1])).bind (fun v1 => (c_i64 v1 (fun v2 => (some (PV.bool (decide (GE.ge v2 (0 : Int))))))))) := go (by kernel_rfl) (by kernel_rfl) T68 (by kernel_rfl)
noncomputable def jF74 : Jn PV := (Classical.choose (exT fi74 (fin cfg fi74))).1
noncomputable def lF74 : Ln PV := (Classical.choose (exT fi74 (fin cfg fi74))).2
theorem T74 : Tied cfg W fi74 (fin cfg fi74) jF74 lF74 := Classical.choose_spec (exT fi74 (fin cfg fi74))
theorem e_slices_Contains_int_int (a0 : List PV) (a1 : Int) : wc W n_slices_Contains_int_int [(PV.slice 0 a0), (PV.int .i64 a1)] =
  (((wc W n_slices_Index_int_int [(PV.slice 0 a0), (PV.int .i64 a1)])).bind (fun v1 => (c_i64 v1 (fun v2 => (some (PV.bool (decide (GE.ge v2 (0 : Int))))))))) := go (by kernel_rfl) (by kernel_rfl) T74 (by kernel_rfl)
noncomputable def jF84 : Jn PV := (Classical.choose (exT fi84 (fin cfg fi84))).1
noncomputable def lF84 : Ln PV := (Classical.choose (exT fi84 (fin cfg fi84))).2
theorem T84 : Tied cfg W fi84 (fin cfg fi84) jF84 lF84 := Classical.choose_spec (exT fi84 (fin cfg fi84))
noncomputable def J_roadbooklaw03_few_1 (l1 : List PV) (l2 : List PV) : Option PV := jF84 [1, 1] (St.mk [(2, (AV.pv (PV.imm 3 (PV.agg [(PV.slice 0 l1), (PV.slice 0 l2)]) 0)))] [])
noncomputable def L_roadbooklaw03_few_2 (l3 : List PV) (l4 : List PV) (i5 : Int) : Option PV := lF84 [0, 1, 0, 1, 1] 0 (St.mk [(2, (AV.pv (PV.imm 3 (PV.agg [(PV.slice 0 l3), (PV.slice 0 l4)]) 0))), (5, (AV.pv (PV.int .i64 i5)))] [])
theorem J_roadbooklaw03_few_1_eq (l1 : List PV) (l2 : List PV) : J_roadbooklaw03_few_1 l1 l2 =
  (L_roadbooklaw03_few_2 l1 l2 (0 : Int)) := (T84.join [1, 1] _).trans (by kernel_rfl)
theorem L_roadbooklaw03_few_2_eq (l3 : List PV) (l4 : List PV) (i5 : Int) : L_roadbooklaw03_few_2 l3 l4 i5 =
  (bif (decide (i5 < (((List.length l4) : Nat) : Int))) then (bif (decide ((0 : Int) ≤ i5)) then (((l4)[(Int.toNat i5)]?).bind (fun v6 => (c_s3 v6 (fun v7 => (bif (decide (GT.gt (((List.length v7) : Nat) : Int) (20 : Int))) then (some (PV.bool false)) else (L_roadbooklaw03_few_2 l3 l4 (IntKind.wrap .i64 (i5 + (1 : Int) : Int)))))))) else none) else (some (PV.bool true))) := (T84.loop [1, 1, 0, 1, 0] 0 _ rfl).trans (by kernel_rfl)
theorem e_roadbooklaw03_few (a0_0 : List PV) (a0_1 : List PV) (a1 : Int) : wc W n_roadbooklaw03_few [(PV.agg [(PV.slice 0 a0_0), (PV.slice 0 a0_1)]), (PV.int .i64 a1)] =
  (bif (decide (GT.gt (((List.length a0_1) : Nat) : Int) a1)) then (some (PV.bool false)) else (bif (decide (GT.gt (((List.length a0_0) : Nat) : Int) (20 : Int))) then (some (PV.bool false)) else (J_roadbooklaw03_few_1 a0_0 a0_1))) := go (by kernel_rfl) (by kernel_rfl) T84 (by kernel_rfl)
noncomputable def jF87 : Jn PV := (Classical.choose (exT fi87 (fin cfg fi87))).1
noncomputable def lF87 : Ln PV := (Classical.choose (exT fi87 (fin cfg fi87))).2
theorem T87 : Tied cfg W fi87 (fin cfg fi87) jF87 lF87 := Classical.choose_spec (exT fi87 (fin cfg fi87))
noncomputable def J_bag_Group_1 (i7 : Int) (l8 : List PV) (l9 : List PV) (l10 : List PV) (i11 : Int) : Option PV := jF87 [1, 1, 1, 1] (St.mk [(1, (AV.pv (PV.int .i64 i7))), (2, (AV.pv (PV.slice 0 l8))), (3, (AV.pv (PV.imm 3 (PV.agg [(PV.slice 0 l9), (PV.slice 0 l10)]) 0))), (6, (AV.own 0 0)), (8, (AV.pv (PV.int .i64 i11)))] [(Ob.var false 3 (AV.agg [(AV.nil 0), (AV.nil 0)]))])
noncomputable def L_bag_Group_2 (i12 : Int) (l13 : List PV) (l14 : List PV) (l15 : List PV) (i16 : Int) (l17 : List PV) (i18 : Int) (i19 : Int) (m20 : List (PV × PV)) (l21 : List PV) (l22 : List PV) : Option PV := lF87 [0, 1, 0, 1, 1, 1, 1, 1, 1] 4 (St.mk [(1, (AV.pv (PV.int .i64 i12))), (2, (AV.pv (PV.slice 0 l13))), (3, (AV.pv (PV.imm 3 (PV.agg [(PV.slice 0 l14), (PV.slice 0 l15)]) 0))), (6, (AV.own 0 0)), (8, (AV.pv (PV.int .i64 i16))), (10, (AV.gm 1)), (11, (AV.view 3 0 none)), (51, (AV.pv (PV.slice 0 l17))), (52, (AV.pv (PV.int .i64 i18))), (53, (AV.pv (PV.int .i64 i19)))] [(Ob.var false 3 (AV.agg [(AV.nil 0), (AV.nil 0)])), (Ob.grp 0 none m20), (Ob.row true 0 0 l21), (Ob.row false 0 3 l22)])
noncomputable def J_bag_Group_3 (i30 : Int) (l31 : List PV) (l32 : List PV) (l33 : List PV) (i34 : Int) (l35 : List PV) (l36 : List PV) (i37 : Int) (i38 : Int) (m39 : List (PV × PV)) (l40 : List PV) (l41 : List PV) (i42 : Int) (i43 : Int) : Option PV := jF87 [1, 1, 1, 0, 0, 1, 1, 4, 0, 1, 0, 1, 1, 1, 1, 1, 1] (St.mk [(1, (AV.pv (PV.int .i64 i30))), (2, (AV.pv (PV.slice 0 l31))), (3, (AV.pv (PV.imm 3 (PV.agg [(PV.slice 0 l32), (PV.slice 0 l33)]) 0))), (6, (AV.own 0 0)), (8, (AV.pv (PV.int .i64 i34))), (10, (AV.gm 1)), (11, (AV.view 3 0 none)), (13, (AV.pv (PV.slice 3 l35))), (14, (AV.own 4 0)), (51, (AV.pv (PV.slice 0 l36))), (52, (AV.pv (PV.int .i64 i37))), (53, (AV.pv (PV.int .i64 i38)))] [(Ob.var false 3 (AV.agg [(AV.nil 0), (AV.nil 0)])), (Ob.grp 0 none m39), (Ob.row true 0 0 l40), (Ob.row false 0 3 l41), (Ob.var false 3 (AV.pv (PV.agg [(PV.int .i64 i42), (PV.int .i64 i43)])))])
noncomputable def L_bag_Group_4 (l48 : List PV) (l49 : List PV) (l50 : List PV) (i51 : Int) (i52 : Int) (m53 : List (PV × PV)) (l54 : List PV) (l55 : List PV) (l56 : List PV) (l57 : List PV) (l58 : List PV) (l59 : List PV) : Option PV := lF87 [0, 1, 0, 1, 1, 1, 1, 1, 1, 1, 1, 1] 9 (St.mk [(2, (AV.pv (PV.slice 0 l48))), (3, (AV.pv (PV.imm 3 (PV.agg [(PV.slice 0 l49), (PV.slice 0 l50)]) 0))), (6, (AV.own 0 0)), (10, (AV.gm 1)), (11, (AV.view 3 0 none)), (15, (AV.own 7 0)), (84, (AV.pv (PV.int .i64 i51))), (85, (AV.pv (PV.int .i64 i52)))] [(Ob.var false 3 (AV.agg [(AV.nil 0), (AV.nil 0)])), (Ob.grp 0 none m53), (Ob.row true 0 0 l54), (Ob.row false 0 3 l55), (Ob.row false 0 0 l56), (Ob.row false 0 0 l57), (Ob.row false 0 0 l58), (Ob.var false 3 (AV.agg [(AV.view 4 0 none), (AV.view 8 0 none)])), (Ob.row false 0 0 l59)])
noncomputable def L_bag_Group_5 (l62 : List PV) (l63 : List PV) (l64 : List PV) (i65 : Int) (i66 : Int) (m67 : List (PV × PV)) (l68 : List PV) (l69 : List PV) (l70 : List PV) (l71 : List PV) (l72 : List PV) (l73 : List PV) : Option PV := lF87 [0, 1, 0, 1, 1, 1, 1, 1, 1, 1, 1, 1, 1] 9 (St.mk [(2, (AV.pv (PV.slice 0 l62))), (3, (AV.pv (PV.imm 3 (PV.agg [(PV.slice 0 l63), (PV.slice 0 l64)]) 0))), (6, (AV.own 0 0)), (10, (AV.gm 1)), (15, (AV.own 7 0)), (96, (AV.view 3 0 none)), (97, (AV.pv (PV.int .i64 i65))), (98, (AV.pv (PV.int .i64 i66)))] [(Ob.var false 3 (AV.agg [(AV.nil 0), (AV.nil 0)])), (Ob.grp 0 none m67), (Ob.row true 0 0 l68), (Ob.row false 0 3 l69), (Ob.row false 0 0 l70), (Ob.row false 0 0 l71), (Ob.row false 0 0 l72), (Ob.var false 3 (AV.agg [(AV.view 4 0 none), (AV.view 8 0 none)])), (Ob.row false 0 0 l73)])
noncomputable def L_bag_Group_6 (l82 : List PV) (l83 : List PV) (l84 : List PV) (i85 : Int) (i86 : Int) (l87 : List PV) (i88 : Int) (i89 : Int) (m90 : List (PV × PV)) (l91 : List PV) (l92 : List PV) (l93 : List PV) (l94 : List PV) (l95 : List PV) (l96 : List PV) (i97 : Int) (i98 : Int) (l99 : List PV) : Option PV := lF87 [0, 1, 0, 1, 1, 0, 0, 1, 1, 9, 0, 1, 0, 1, 1, 1, 1, 1, 1, 1, 1, 1, 1] 11 (St.mk [(2, (AV.pv (PV.slice 0 l82))), (3, (AV.pv (PV.imm 3 (PV.agg [(PV.slice 0 l83), (PV.slice 0 l84)]) 0))), (6, (AV.own 0 0)), (10, (AV.gm 1)), (15, (AV.own 7 0)), (18, (AV.own 9 0)), (19, (AV.view 10 0 none)), (96, (AV.view 3 0 none)), (97, (AV.pv (PV.int .i64 i85))), (98, (AV.pv (PV.int .i64 i86))), (113, (AV.pv (PV.slice 0 l87))), (114, (AV.pv (PV.int .i64 i88))), (115, (AV.pv (PV.int .i64 i89)))] [(Ob.var false 3 (AV.agg [(AV.nil 0), (AV.nil 0)])), (Ob.grp 0 none m90), (Ob.row true 0 0 l91), (Ob.row false 0 3 l92), (Ob.row false 0 0 l93), (Ob.row false 0 0 l94), (Ob.row false 0 0 l95), (Ob.var false 3 (AV.agg [(AV.view 4 0 none), (AV.view 8 0 none)])), (Ob.row false 0 0 l96), (Ob.var false 3 (AV.pv (PV.agg [(PV.int .i64 i97), (PV.int .i64 i98)]))), (Ob.row false 0 3 l99)])
noncomputable def L_bag_Group_7 (l106 : List PV) (l107 : List PV) (l108 : List PV) (i109 : Int) (i110 : Int) (i111 : Int) (l112 : List PV) (i113 : Int) (i114 : Int) (p115 : PV) (i116 : Int) (i117 : Int) (m118 : List (PV × PV)) (l119 : List PV) (l120 : List PV) (l121 : List PV) (l122 : List PV) (l123 : List PV) (l124 : List PV) (i125 : Int) (i126 : Int) (l127 : List PV) (l128 : List PV) : Option PV := lF87 [0, 1, 0, 1, 1, 1, 0, 0, 1, 1, 11, 0, 1, 0, 1, 1, 0, 0, 1, 1, 9, 0, 1, 0, 1, 1, 1, 1, 1, 1, 1, 1, 1, 1] 12 (St.mk [(2, (AV.pv (PV.slice 0 l106))), (3, (AV.pv (PV.imm 3 (PV.agg [(PV.slice 0 l107), (PV.slice 0 l108)]) 0))), (6, (AV.own 0 0)), (10, (AV.gm 1)), (15, (AV.own 7 0)), (18, (AV.own 9 0)), (19, (AV.view 10 0 none)), (22, (AV.pv (PV.int .i64 i109))), (23, (AV.view 11 0 none)), (96, (AV.view 3 0 none)), (97, (AV.pv (PV.int .i64 i110))), (98, (AV.pv (PV.int .i64 i111))), (113, (AV.pv (PV.slice 0 l112))), (114, (AV.pv (PV.int .i64 i113))), (115, (AV.pv (PV.int .i64 i114))), (125, (AV.pv p115)), (126, (AV.pv (PV.int .i64 i116))), (127, (AV.pv (PV.int .i64 i117)))] [(Ob.var false 3 (AV.agg [(AV.nil 0), (AV.nil 0)])), (Ob.grp 0 none m118), (Ob.row true 0 0 l119), (Ob.row false 0 3 l120), (Ob.row false 0 0 l121), (Ob.row false 0 0 l122), (Ob.row false 0 0 l123), (Ob.var false 3 (AV.agg [(AV.view 4 0 none), (AV.view 8 0 none)])), (Ob.row false 0 0 l124), (Ob.var false 3 (AV.pv (PV.agg [(PV.int .i64 i125), (PV.int .i64 i126)]))), (Ob.row false 0 3 l127), (Ob.row false 0 3 l128)])
theorem J_bag_Group_1_eq (i7 : Int) (l8 : List PV) (l9 : List PV) (l10 : List PV) (i11 : Int) : J_bag_Group_1 i7 l8 l9 l10 i11 =
  (L_bag_Group_2 i7 l8 l9 l10 i11 l10 (((List.length l10) : Nat) : Int) (0 : Int) [] [] []) := (T87.join [1, 1, 1, 1] _).trans (by kernel_rfl)
theorem L_bag_Group_2_eq (i12 : Int) (l13 : List PV) (l14 : List PV) (l15 : List PV) (i16 : Int) (l17 : List PV) (i18 : Int) (i19 : Int) (m20 : List (PV × PV)) (l21 : List PV) (l22 : List PV) : L_bag_Group_2 i12 l13 l14 l15 i16 l17 i18 i19 m20 l21 l22 =
  (bif (decide (i19 < i18)) then (bif (decide ((0 : Int) ≤ i19)) then (((l17)[(Int.toNat i19)]?).bind (fun v23 => (c_s3 v23 (fun v24 => (((wc W n_bag_of [(PV.slice 3 v24), (PV.int .i64 i16)])).bind (fun v25 => (c_g_i64_i64 v25 (fun v26 v27 => (((mfind (eqP Cf.cfg (6 : Nat) (100 : TypeId)) (PV.agg [(PV.int .i64 v26), (PV.int .i64 v27)]) m20)).bind (fun v28 => (((PV.asSlice 0 (Option.getD v28 (PV.slice 0 [])))).bind (fun v29 => (bif ((((List.length v29) : Nat) : Int) == (0 : Int)) then (bif (true && (decide (((List.length l22) + 1 : Nat) ≤ 4294967296))) then (J_bag_Group_3 i12 l13 l14 l15 i16 v24 l17 i18 i19 m20 l21 (l22 ++ [(PV.agg [(PV.int .i64 v26), (PV.int .i64 v27)])]) v26 v27) else none) else (J_bag_Group_3 i12 l13 l14 l15 i16 v24 l17 i18 i19 m20 l21 l22 v26 v27)))))))))))))) else none) else (((W n_slices_SortFunc_bag_key_bag_key false [(AV.fx 0 3), (AV.pv (PV.fn n_bag_compare [] []))] [(Ob.fix 0 3 l22)])).bind (fun v45 => (k_a0f1d3 v45 (fun v46 v47 => (L_bag_Group_4 l13 l14 l15 (((List.length l13) : Nat) : Int) (0 : Int) m20 l21 v47 [(PV.int .i64 i12), (PV.int .i64 (16 : Int))] [] [] [])))))) := (T87.loop [1, 1, 1, 1, 1, 1, 0, 1, 0] 4 _ rfl).trans (by kernel_rfl)
theorem J_bag_Group_3_eq (i30 : Int) (l31 : List PV) (l32 : List PV) (l33 : List PV) (i34 : Int) (l35 : List PV) (l36 : List PV) (i37 : Int) (i38 : Int) (m39 : List (PV × PV)) (l40 : List PV) (l41 : List PV) (i42 : Int) (i43 : Int) : J_bag_Group_3 i30 l31 l32 l33 i34 l35 l36 i37 i38 m39 l40 l41 i42 i43 =
  (((gidx (eqP Cf.cfg (6 : Nat) (100 : TypeId)) (PV.agg [(PV.int .i64 i42), (PV.int .i64 i43)]) m39)).bind (fun v60 => (((grow_ 0 v60 m39)).bind (fun v61 => (bif (true && (decide (((List.length v61) + 1 : Nat) ≤ 4294967296))) then (bif ((((decide (((v60 : Nat) : Int) = ((v60 : Nat) : Int))) && true) && true) && true) then (L_bag_Group_2 i30 l31 l32 l33 i34 l36 i37 (IntKind.wrap .i64 (i38 + (1 : Int) : Int)) (gset (PV.slice 0 (v61 ++ [(PV.slice 3 l35)])) v60 (gput (PV.agg [(PV.int .i64 i42), (PV.int .i64 i43)]) 0 v60 m39)) [] l41) else none) else none))))) := (T87.join [1, 1, 1, 1, 1, 1, 0, 1, 0, 4, 1, 1, 0, 0, 1, 1, 1] _).trans (by kernel_rfl)
theorem L_bag_Group_4_eq (l48 : List PV) (l49 : List PV) (l50 : List PV) (i51 : Int) (i52 : Int) (m53 : List (PV × PV)) (l54 : List PV) (l55 : List PV) (l56 : List PV) (l57 : List PV) (l58 : List PV) (l59 : List PV) : L_bag_Group_4 l48 l49 l50 i51 i52 m53 l54 l55 l56 l57 l58 l59 =
  (bif (decide (i52 < i51)) then (bif (true && (decide (((List.length l56) + 1 : Nat) ≤ 4294967296))) then (L_bag_Group_4 l48 l49 l50 i51 (IntKind.wrap .i64 (i52 + (1 : Int) : Int)) m53 l54 l55 (l56 ++ [(PV.int .i64 (IntKind.wrap .i64 ((17 : Int) + i52 : Int)))]) l57 l58 l59) else none) else (L_bag_Group_5 l48 l49 l50 (((List.length l55) : Nat) : Int) (0 : Int) m53 l54 l55 l56 l57 l58 l59)) := (T87.loop [1, 1, 1, 1, 1, 1, 1, 1, 1, 0, 1, 0] 9 _ rfl).trans (by kernel_rfl)
theorem L_bag_Group_5_eq (l62 : List PV) (l63 : List PV) (l64 : List PV) (i65 : Int) (i66 : Int) (m67 : List (PV × PV)) (l68 : List PV) (l69 : List PV) (l70 : List PV) (l71 : List PV) (l72 : List PV) (l73 : List PV) : L_bag_Group_5 l62 l63 l64 i65 i66 m67 l68 l69 l70 l71 l72 l73 =
  (bif (decide (i66 < i65)) then (bif ((true && (decide ((0 : Int) ≤ i66))) && (decide (i66 < (((List.length l69) : Nat) : Int)))) then (((l69)[(0 + (Int.toNat i66) : Nat)]?).bind (fun v74 => (c_g_i64_i64 v74 (fun v75 v76 => (((mfind (eqP Cf.cfg (6 : Nat) (100 : TypeId)) (PV.agg [(PV.int .i64 v75), (PV.int .i64 v76)]) m67)).bind (fun v77 => (((PV.asSlice 0 (Option.getD v77 (PV.slice 0 [])))).bind (fun v78 => (((wc W n_val_Of [(PV.int .i64 (((List.length v78) : Nat) : Int))])).bind (fun v79 => (c_g_i64_i64 v79 (fun v80 v81 => (L_bag_Group_6 l62 l63 l64 i65 i66 l62 (((List.length l62) : Nat) : Int) (0 : Int) m67 l68 l69 l70 l71 l72 l73 v75 v76 [(PV.agg [(PV.int .i64 v75), (PV.int .i64 v76)]), (PV.agg [(PV.int .i64 v80), (PV.int .i64 v81)])]))))))))))))) else none) else (some (PV.tup [(PV.agg [(PV.slice 0 l70), (PV.slice 0 l73)]), (PV.bool true)]))) := (T87.loop [1, 1, 1, 1, 1, 1, 1, 1, 1, 1, 0, 1, 0] 9 _ rfl).trans (by kernel_rfl)
theorem L_bag_Group_6_eq (l82 : List PV) (l83 : List PV) (l84 : List PV) (i85 : Int) (i86 : Int) (l87 : List PV) (i88 : Int) (i89 : Int) (m90 : List (PV × PV)) (l91 : List PV) (l92 : List PV) (l93 : List PV) (l94 : List PV) (l95 : List PV) (l96 : List PV) (i97 : Int) (i98 : Int) (l99 : List PV) : L_bag_Group_6 l82 l83 l84 i85 i86 l87 i88 i89 m90 l91 l92 l93 l94 l95 l96 i97 i98 l99 =
  (bif (decide (i89 < i88)) then (bif (decide ((0 : Int) ≤ i89)) then (((l87)[(Int.toNat i89)]?).bind (fun v100 => (c_i64 v100 (fun v101 => (((wc W n_slices_Index_int_int [(PV.slice 0 l83), (PV.int .i64 v101)])).bind (fun v102 => (c_i64 v102 (fun v103 => (((mfind (eqP Cf.cfg (6 : Nat) (100 : TypeId)) (PV.agg [(PV.int .i64 i97), (PV.int .i64 i98)]) m90)).bind (fun v104 => (((PV.asSlice 0 (Option.getD v104 (PV.slice 0 [])))).bind (fun v105 => (L_bag_Group_7 l82 l83 l84 v103 i85 i86 l87 i88 i89 (Option.getD v104 (PV.slice 0 [])) (((List.length v105) : Nat) : Int) (0 : Int) m90 l91 l92 l93 l94 l95 l96 i97 i98 l99 []))))))))))))) else none) else (bif (true && (decide (((List.length l96) + 1 : Nat) ≤ 4294967296))) then (L_bag_Group_5 l82 l83 l84 i85 (IntKind.wrap .i64 (i86 + (1 : Int) : Int)) m90 l91 l92 l93 l94 l95 (l96 ++ [(PV.slice 3 l99)])) else none)) := (T87.loop [1, 1, 1, 1, 1, 1, 1, 1, 1, 1, 0, 1, 0, 9, 1, 1, 0, 0, 1, 1, 0, 1, 0] 11 _ rfl).trans (by kernel_rfl)
theorem L_bag_Group_7_eq (l106 : List PV) (l107 : List PV) (l108 : List PV) (i109 : Int) (i110 : Int) (i111 : Int) (l112 : List PV) (i113 : Int) (i114 : Int) (p115 : PV) (i116 : Int) (i117 : Int) (m118 : List (PV × PV)) (l119 : List PV) (l120 : List PV) (l121 : List PV) (l122 : List PV) (l123 : List PV) (l124 : List PV) (i125 : Int) (i126 : Int) (l127 : List PV) (l128 : List PV) : L_bag_Group_7 l106 l107 l108 i109 i110 i111 l112 i113 i114 p115 i116 i117 m118 l119 l120 l121 l122 l123 l124 i125 i126 l127 l128 =
  (bif (decide (i117 < i116)) then (((PV.asSlice 0 p115)).bind (fun v129 => (bif (decide ((0 : Int) ≤ i117)) then (((v129)[(Int.toNat i117)]?).bind (fun v130 => (c_s3 v130 (fun v131 => (bif (decide ((0 : Int) ≤ i109)) then (((v131)[(Int.toNat i109)]?).bind (fun v132 => (c_g_i64_i64 v132 (fun v133 v134 => (bif (true && (decide (((List.length l128) + 1 : Nat) ≤ 4294967296))) then (L_bag_Group_7 l106 l107 l108 i109 i110 i111 l112 i113 i114 p115 i116 (IntKind.wrap .i64 (i117 + (1 : Int) : Int)) m118 l119 l120 l121 l122 l123 l124 i125 i126 l127 (l128 ++ [(PV.agg [(PV.int .i64 v133), (PV.int .i64 v134)])])) else none))))) else none))))) else none))) else (((wc W n_val_Sum [(PV.slice 3 l128)])).bind (fun v135 => (c_g_i64_i64 v135 (fun v136 v137 => (bif (true && (decide (((List.length l127) + 1 : Nat) ≤ 4294967296))) then (L_bag_Group_6 l106 l107 l108 i110 i111 l112 i113 (IntKind.wrap .i64 (i114 + (1 : Int) : Int)) m118 l119 l120 l121 l122 l123 l124 i125 i126 (l127 ++ [(PV.agg [(PV.int .i64 v136), (PV.int .i64 v137)])])) else none)))))) := (T87.loop [1, 1, 1, 1, 1, 1, 1, 1, 1, 1, 0, 1, 0, 9, 1, 1, 0, 0, 1, 1, 0, 1, 0, 11, 1, 1, 0, 0, 1, 1, 1, 0, 1, 0] 12 _ rfl).trans (by kernel_rfl)
theorem e_bag_Group (a0_0 : List PV) (a0_1 : List PV) (a1 : Int) (a2 : List PV) : wc W n_bag_Group [(PV.agg [(PV.slice 0 a0_0), (PV.slice 0 a0_1)]), (PV.int .i64 a1), (PV.slice 0 a2)] =
  (((wc W n_slices_Index_int_int [(PV.slice 0 a0_0), (PV.int .i64 a1)])).bind (fun v1 => (c_i64 v1 (fun v2 => (((wc W n_bag_May [(PV.agg [(PV.slice 0 a0_0), (PV.slice 0 a0_1)])])).bind (fun v3 => (c_b v3 (fun v4 => (bif (!v4) then (some (PV.tup [(PV.agg [(PV.slice 0 []), (PV.slice 0 [])]), (PV.bool false)])) else (bif (decide (v2 < (0 : Int))) then (some (PV.tup [(PV.agg [(PV.slice 0 []), (PV.slice 0 [])]), (PV.bool false)])) else (bif (decide (GT.gt (((List.length a2) : Nat) : Int) (4 : Int))) then (some (PV.tup [(PV.agg [(PV.slice 0 []), (PV.slice 0 [])]), (PV.bool false)])) else (((wc W n_slices_ContainsFunc_int_int [(PV.slice 0 a2), (PV.fn n_bag_Group_1 [] [(PV.imm 3 (PV.agg [(PV.slice 0 a0_0), (PV.slice 0 a0_1)]) 0)])])).bind (fun v5 => (c_b v5 (fun v6 => (bif v6 then (some (PV.tup [(PV.agg [(PV.slice 0 []), (PV.slice 0 [])]), (PV.bool false)])) else (J_bag_Group_1 a1 a2 a0_0 a0_1 v2))))))))))))))))) := go (by kernel_rfl) (by kernel_rfl) T87 (by kernel_rfl)
end Go.Cf

namespace Go.Cf
open Go Go.Ab
set_option linter.unusedVariables false
set_option maxRecDepth 100000
noncomputable def jF99 : Jn PV := (Classical.choose (exT fi99 (fin cfg fi99))).1
noncomputable def lF99 : Ln PV := (Classical.choose (exT fi99 (fin cfg fi99))).2
theorem T99 : Tied cfg W fi99 (fin cfg fi99) jF99 lF99 := Classical.choose_spec (exT fi99 (fin cfg fi99))
theorem e_bag_May_1 (a0_0 : Int) (a0_1 : Int) : wc W n_bag_May_1 [(PV.agg [(PV.int .i64 a0_0), (PV.int .i64 a0_1)])] =
  (((wc W n_val_May [(PV.agg [(PV.int .i64 a0_0), (PV.int .i64 a0_1)])])).bind (fun v1 => (c_b v1 (fun v2 => (some (PV.bool (!v2))))))) := go (by kernel_rfl) (by kernel_rfl) T99 (by kernel_rfl)
noncomputable def jF100 : Jn PV := (Classical.choose (exT fi100 (fin cfg fi100))).1
noncomputable def lF100 : Ln PV := (Classical.choose (exT fi100 (fin cfg fi100))).2
theorem T100 : Tied cfg W fi100 (fin cfg fi100) jF100 lF100 := Classical.choose_spec (exT fi100 (fin cfg fi100))
theorem e_val_May (a0_0 : Int) (a0_1 : Int) : wc W n_val_May [(PV.agg [(PV.int .i64 a0_0), (PV.int .i64 a0_1)])] =
  (bif (decide (GE.ge a0_0 (0 : Int))) then (bif (decide (a0_0 < (3 : Int))) then (bif (a0_0 == (0 : Int)) then (some (PV.bool true)) else (some (PV.bool (a0_1 == (0 : Int))))) else (some (PV.bool false))) else (some (PV.bool false))) := go (by kernel_rfl) (by kernel_rfl) T100 (by kernel_rfl)
noncomputable def jF101 : Jn PV := (Classical.choose (exT fi101 (fin cfg fi101))).1
noncomputable def lF101 : Ln PV := (Classical.choose (exT fi101 (fin cfg fi101))).2
theorem T101 : Tied cfg W fi101 (fin cfg fi101) jF101 lF101 := Classical.choose_spec (exT fi101 (fin cfg fi101))
theorem e_slices_ContainsFunc_api_Val_api_Val_c5fc (a0 : List PV) (a1 : PV) : wc W n_slices_ContainsFunc_api_Val_api_Val_c5fc [(PV.slice 3 a0), a1] =
  (((wc W n_slices_IndexFunc_api_Val_api_Val_b1f6 [(PV.slice 3 a0), a1])).bind (fun v1 => (c_i64 v1 (fun v2 => (some (PV.bool (decide (GE.ge v2 (0 : Int))))))))) := go (by kernel_rfl) (by kernel_rfl) T101 (by kernel_rfl)
noncomputable def jF102 : Jn PV := (Classical.choose (exT fi102 (fin cfg fi102))).1
noncomputable def lF102 : Ln PV := (Classical.choose (exT fi102 (fin cfg fi102))).2
theorem T102 : Tied cfg W fi102 (fin cfg fi102) jF102 lF102 := Classical.choose_spec (exT fi102 (fin cfg fi102))
noncomputable def L_bag_some_1 (p3 : PV) (l4 : List PV) (i5 : Int) (i6 : Int) (l7 : List PV) (l8 : List PV) (l9 : List PV) (l10 : List PV) : Option PV := lF102 [0, 1, 0, 1, 1] 5 (St.mk [(1, (AV.pv p3)), (4, (AV.own 0 0)), (5, (AV.own 3 0)), (13, (AV.pv (PV.slice 0 l4))), (14, (AV.pv (PV.int .i64 i5))), (15, (AV.pv (PV.int .i64 i6)))] [(Ob.var false 3 (AV.agg [(AV.nil 0), (AV.nil 0)])), (Ob.row false 0 0 l7), (Ob.row false 0 0 l8), (Ob.var false 3 (AV.agg [(AV.pv (PV.slice 0 l9)), (AV.view 4 0 none)])), (Ob.row false 0 0 l10)])
theorem L_bag_some_1_eq (p3 : PV) (l4 : List PV) (i5 : Int) (i6 : Int) (l7 : List PV) (l8 : List PV) (l9 : List PV) (l10 : List PV) : L_bag_some_1 p3 l4 i5 i6 l7 l8 l9 l10 =
  (bif (decide (i6 < i5)) then (bif (decide ((0 : Int) ≤ i6)) then (((l4)[(Int.toNat i6)]?).bind (fun v11 => (c_s3 v11 (fun v12 => (((PV.asFn p3)).bind (fun v13 => (((wc W (Prod.fst v13) (((Prod.fst (Prod.snd v13)) ++ [(PV.slice 3 v12)]) ++ (Prod.snd (Prod.snd v13))))).bind (fun v14 => (c_b v14 (fun v15 => (bif v15 then (((wc W n_slices_Clone_api_Val_api_Val [(PV.slice 3 v12)])).bind (fun v16 => (c_s3 v16 (fun v17 => (bif (true && (decide (((List.length l10) + 1 : Nat) ≤ 4294967296))) then (L_bag_some_1 p3 l4 i5 (IntKind.wrap .i64 (i6 + (1 : Int) : Int)) l7 l8 l9 (l10 ++ [(PV.slice 3 v17)])) else none))))) else (L_bag_some_1 p3 l4 i5 (IntKind.wrap .i64 (i6 + (1 : Int) : Int)) l7 l8 l9 l10)))))))))))) else none) else (some (PV.agg [(PV.slice 0 l9), (PV.slice 0 l10)]))) := (T102.loop [1, 1, 0, 1, 0] 5 _ rfl).trans (by kernel_rfl)
theorem e_bag_some (a0_0 : List PV) (a0_1 : List PV) (a1 : PV) : wc W n_bag_some [(PV.agg [(PV.slice 0 a0_0), (PV.slice 0 a0_1)]), a1] =
  (((wc W n_slices_Clone_int_int [(PV.slice 0 a0_0)])).bind (fun v1 => (c_s0 v1 (fun v2 => (L_bag_some_1 a1 a0_1 (((List.length a0_1) : Nat) : Int) (0 : Int) [] [] v2 []))))) := go (by kernel_rfl) (by kernel_rfl) T102 (by kernel_rfl)
noncomputable def jF102r0 : Jn (AV × List Ob) := (Classical.choose (exT fi102 (finO cfg fi102 true 0))).1
noncomputable def lF102r0 : Ln (AV × List Ob) := (Classical.choose (exT fi102 (finO cfg fi102 true 0))).2
theorem T102r0 : Tied cfg W fi102 (finO cfg fi102 true 0) jF102r0 lF102r0 := Classical.choose_spec (exT fi102 (finO cfg fi102 true 0))
noncomputable def L_bag_some_r0_1 (l3 : List PV) (i4 : Int) (i5 : Int) (l6 : List PV) (l7 : List PV) (l8 : List PV) (l9 : List PV) : Option (AV × List Ob) := lF102r0 [0, 1, 0, 1, 1] 5 (St.mk [(1, (AV.pv (PV.fn n_bag_Sort_1 [] []))), (4, (AV.own 0 0)), (5, (AV.own 3 0)), (13, (AV.pv (PV.slice 0 l3))), (14, (AV.pv (PV.int .i64 i4))), (15, (AV.pv (PV.int .i64 i5)))] [(Ob.var false 3 (AV.agg [(AV.nil 0), (AV.nil 0)])), (Ob.row false 0 0 l6), (Ob.row false 0 0 l7), (Ob.var false 3 (AV.agg [(AV.pv (PV.slice 0 l8)), (AV.view 4 0 none)])), (Ob.row false 0 0 l9)])
theorem L_bag_some_r0_1_eq (l3 : List PV) (i4 : Int) (i5 : Int) (l6 : List PV) (l7 : List PV) (l8 : List PV) (l9 : List PV) : L_bag_some_r0_1 l3 i4 i5 l6 l7 l8 l9 =
  (bif (decide (i5 < i4)) then (bif (decide ((0 : Int) ≤ i5)) then (((l3)[(Int.toNat i5)]?).bind (fun v10 => (c_s3 v10 (fun v11 => (((wc W n_bag_Sort_1 [(PV.slice 3 v11)])).bind (fun v12 => (c_b v12 (fun v13 => (bif v13 then (((wc W n_slices_Clone_api_Val_api_Val [(PV.slice 3 v11)])).bind (fun v14 => (c_s3 v14 (fun v15 => (bif (true && (decide (((List.length l9) + 1 : Nat) ≤ 4294967296))) then (L_bag_some_r0_1 l3 i4 (IntKind.wrap .i64 (i5 + (1 : Int) : Int)) l6 l7 l8 (l9 ++ [(PV.slice 3 v15)])) else none))))) else (L_bag_some_r0_1 l3 i4 (IntKind.wrap .i64 (i5 + (1 : Int) : Int)) l6 l7 l8 l9)))))))))) else none) else (some ((AV.agg [(AV.pv (PV.slice 0 l8)), (AV.view 0 0 none)]), [(Ob.row false 0 0 l9)]))) := (T102r0.loop [1, 1, 0, 1, 0] 5 _ rfl).trans (by kernel_rfl)
theorem o_bag_some_r0_1 (l0 : List PV) (l1 : List PV) : W n_bag_some true [(AV.pv (PV.agg [(PV.slice 0 l0), (PV.slice 0 l1)])), (AV.pv (PV.fn n_bag_Sort_1 [] []))] [] =
  (((wc W n_slices_Clone_int_int [(PV.slice 0 l0)])).bind (fun v1 => (c_s0 v1 (fun v2 => (L_bag_some_r0_1 l1 (((List.length l1) : Nat) : Int) (0 : Int) [] [] v2 []))))) := goO (by kernel_rfl) (by kernel_rfl) T102r0 rfl (by kernel_rfl)
noncomputable def jF107 : Jn PV := (Classical.choose (exT fi107 (fin cfg fi107))).1
noncomputable def lF107 : Ln PV := (Classical.choose (exT fi107 (fin cfg fi107))).2
theorem T107 : Tied cfg W fi107 (fin cfg fi107) jF107 lF107 := Classical.choose_spec (exT fi107 (fin cfg fi107))
theorem e_bag_Sort_1 (a0 : List PV) : wc W n_bag_Sort_1 [(PV.slice 3 a0)] =
  (some (PV.bool true)) := go (by kernel_rfl) (by kernel_rfl) T107 (by kernel_rfl)
noncomputable def jF108 : Jn PV := (Classical.choose (exT fi108 (fin cfg fi108))).1
noncomputable def lF108 : Ln PV := (Classical.choose (exT fi108 (fin cfg fi108))).2
theorem T108 : Tied cfg W fi108 (fin cfg fi108) jF108 lF108 := Classical.choose_spec (exT fi108 (fin cfg fi108))
theorem e_slices_SortStableFunc_api_Val_api_Val (a0 : List PV) (a1 : PV) : wc W n_slices_SortStableFunc_api_Val_api_Val [(PV.slice 0 a0), a1] =
  (((wc W n_slices_stableCmpFunc_api_Val [(PV.slice 0 a0), (PV.int .i64 (((List.length a0) : Nat) : Int)), a1])).bind (fun v1 => (some (PV.tup [])))) := go (by kernel_rfl) (by kernel_rfl) T108 (by kernel_rfl)
noncomputable def jF108o2 : Jn (AV × List Ob) := (Classical.choose (exT fi108 (finO cfg fi108 false 2))).1
noncomputable def lF108o2 : Ln (AV × List Ob) := (Classical.choose (exT fi108 (finO cfg fi108 false 2))).2
theorem T108o2 : Tied cfg W fi108 (finO cfg fi108 false 2) jF108o2 lF108o2 := Classical.choose_spec (exT fi108 (finO cfg fi108 false 2))
theorem o_slices_SortStableFunc_api_Val_api_Val_o2_1 (l0 : List PV) (i1 : Int) : W n_slices_SortStableFunc_api_Val_api_Val false [(AV.fx 0 0), (AV.fnv n_bag_Sort_2 [] [(AV.own 1 0)])] [(Ob.fix 0 0 l0), (Ob.var false 0 (AV.pv (PV.int .i64 i1)))] =
  (((W n_slices_stableCmpFunc_api_Val false [(AV.fx 0 0), (AV.pv (PV.int .i64 (((List.length l0) : Nat) : Int))), (AV.fnv n_bag_Sort_2 [] [(AV.own 1 0)])] [(Ob.fix 0 0 l0), (Ob.var false 0 (AV.pv (PV.int .i64 i1)))])).bind (fun v4 => (k_c4d914 v4 (fun v5 v6 v7 => (some ((AV.pv (PV.tup [])), [(Ob.fix 0 0 v6), (Ob.var false 0 (AV.pv (PV.int .i64 v7)))])))))) := goO (by kernel_rfl) (by kernel_rfl) T108o2 rfl (by kernel_rfl)
noncomputable def jF109 : Jn PV := (Classical.choose (exT fi109 (fin cfg fi109))).1
noncomputable def lF109 : Ln PV := (Classical.choose (exT fi109 (fin cfg fi109))).2
theorem T109 : Tied cfg W fi109 (fin cfg fi109) jF109 lF109 := Classical.choose_spec (exT fi109 (fin cfg fi109))
theorem e_bag_Sort_2 (a0 : List PV) (a1 : List PV) (c0 : Int) : wc W n_bag_Sort_2 [(PV.slice 3 a0), (PV.slice 3 a1), (PV.imm 0 (PV.int .i64 c0) 0)] =
  (((wc W n_bag_of [(PV.slice 3 a0), (PV.int .i64 c0)])).bind (fun v1 => (c_g_i64_i64 v1 (fun v2 v3 => (((wc W n_bag_of [(PV.slice 3 a1), (PV.int .i64 c0)])).bind (fun v4 => (c_g_i64_i64 v4 (fun v5 v6 => (((wc W n_bag_compare [(PV.agg [(PV.int .i64 v2), (PV.int .i64 v3)]), (PV.agg [(PV.int .i64 v5), (PV.int .i64 v6)])])).bind (fun v7 => (c_i64 v7 (fun v8 => (some (PV.int .i64 v8)))))))))))))) := go (by kernel_rfl) (by kernel_rfl) T109 (by kernel_rfl)
noncomputable def jF109o1 : Jn (AV × List Ob) := (Classical.choose (exT fi109 (finO cfg fi109 false 1))).1
noncomputable def lF109o1 : Ln (AV × List Ob) := (Classical.choose (exT fi109 (finO cfg fi109 false 1))).2
theorem T109o1 : Tied cfg W fi109 (finO cfg fi109 false 1) jF109o1 lF109o1 := Classical.choose_spec (exT fi109 (finO cfg fi109 false 1))
theorem o_bag_Sort_2_o1_1 (l0 : List PV) (l1 : List PV) (i2 : Int) : W n_bag_Sort_2 false [(AV.pv (PV.slice 3 l0)), (AV.pv (PV.slice 3 l1)), (AV.own 0 0)] [(Ob.var false 0 (AV.pv (PV.int .i64 i2)))] =
  (((wc W n_bag_of [(PV.slice 3 l0), (PV.int .i64 i2)])).bind (fun v1 => (c_g_i64_i64 v1 (fun v2 v3 => (((wc W n_bag_of [(PV.slice 3 l1), (PV.int .i64 i2)])).bind (fun v4 => (c_g_i64_i64 v4 (fun v5 v6 => (((wc W n_bag_compare [(PV.agg [(PV.int .i64 v2), (PV.int .i64 v3)]), (PV.agg [(PV.int .i64 v5), (PV.int .i64 v6)])])).bind (fun v7 => (c_i64 v7 (fun v8 => (some ((AV.pv (PV.int .i64 v8)), [(Ob.var false 0 (AV.pv (PV.int .i64 i2)))])))))))))))))) := goO (by kernel_rfl) (by kernel_rfl) T109o1 rfl (by kernel_rfl)
noncomputable def jF124 : Jn PV := (Classical.choose (exT fi124 (fin cfg fi124))).1
noncomputable def lF124 : Ln PV := (Classical.choose (exT fi124 (fin cfg fi124))).2
theorem T124 : Tied cfg W fi124 (fin cfg fi124) jF124 lF124 := Classical.choose_spec (exT fi124 (fin cfg fi124))
noncomputable def L_slices_Compare_int_int_1 (l1 : List PV) (l2 : List PV) (l3 : List PV) (i4 : Int) (i5 : Int) : Option PV := lF124 [0, 1, 0, 1] 0 (St.mk [(0, (AV.pv (PV.slice 0 l1))), (1, (AV.pv (PV.slice 0 l2))), (9, (AV.pv (PV.slice 0 l3))), (10, (AV.pv (PV.int .i64 i4))), (11, (AV.pv (PV.int .i64 i5)))] [])
theorem L_slices_Compare_int_int_1_eq (l1 : List PV) (l2 : List PV) (l3 : List PV) (i4 : Int) (i5 : Int) : L_slices_Compare_int_int_1 l1 l2 l3 i4 i5 =
  (bif (decide (i5 < i4)) then (bif (decide ((0 : Int) ≤ i5)) then (((l3)[(Int.toNat i5)]?).bind (fun v6 => (c_i64 v6 (fun v7 => (bif (decide (GE.ge i5 (((List.length l2) : Nat) : Int))) then (some (PV.int .i64 (1 : Int))) else (bif (decide ((0 : Int) ≤ i5)) then (((l2)[(Int.toNat i5)]?).bind (fun v8 => (c_i64 v8 (fun v9 => (((wc W n_cmp_Compare_int [(PV.int .i64 v7), (PV.int .i64 v9)])).bind (fun v10 => (c_i64 v10 (fun v11 => (bif (v11 != (0 : Int)) then (some (PV.int .i64 v11)) else (L_slices_Compare_int_int_1 l1 l2 l3 i4 (IntKind.wrap .i64 (i5 + (1 : Int) : Int)))))))))))) else none)))))) else none) else (bif (decide ((((List.length l1) : Nat) : Int) < (((List.length l2) : Nat) : Int))) then (some (PV.int .i64 (-1 : Int))) else (some (PV.int .i64 (0 : Int))))) := (T124.loop [1, 0, 1, 0] 0 _ rfl).trans (by kernel_rfl)
theorem e_slices_Compare_int_int (a0 : List PV) (a1 : List PV) : wc W n_slices_Compare_int_int [(PV.slice 0 a0), (PV.slice 0 a1)] =
  (L_slices_Compare_int_int_1 a0 a1 a0 (((List.length a0) : Nat) : Int) (0 : Int)) := go (by kernel_rfl) (by kernel_rfl) T124 (by kernel_rfl)
noncomputable def jF135 : Jn PV := (Classical.choose (exT fi135 (fin cfg fi135))).1
noncomputable def lF135 : Ln PV := (Classical.choose (exT fi135 (fin cfg fi135))).2
theorem T135 : Tied cfg W fi135 (fin cfg fi135) jF135 lF135 := Classical.choose_spec (exT fi135 (fin cfg fi135))
noncomputable def L_slices_IndexFunc_int_int_1 (l1 : List PV) (p2 : PV) (i3 : Int) (i4 : Int) : Option PV := lF135 [0, 1, 0, 1] 0 (St.mk [(0, (AV.pv (PV.slice 0 l1))), (1, (AV.pv p2)), (7, (AV.pv (PV.int .i64 i3))), (8, (AV.pv (PV.int .i64 i4)))] [])
theorem L_slices_IndexFunc_int_int_1_eq (l1 : List PV) (p2 : PV) (i3 : Int) (i4 : Int) : L_slices_IndexFunc_int_int_1 l1 p2 i3 i4 =
  (bif (decide (i4 < i3)) then (bif (decide ((0 : Int) ≤ i4)) then (((l1)[(Int.toNat i4)]?).bind (fun v5 => (c_i64 v5 (fun v6 => (((PV.asFn p2)).bind (fun v7 => (((wc W (Prod.fst v7) (((Prod.fst (Prod.snd v7)) ++ [(PV.int .i64 v6)]) ++ (Prod.snd (Prod.snd v7))))).bind (fun v8 => (c_b v8 (fun v9 => (bif v9 then (some (PV.int .i64 i4)) else (L_slices_IndexFunc_int_int_1 l1 p2 i3 (IntKind.wrap .i64 (i4 + (1 : Int) : Int)))))))))))))) else none) else (some (PV.int .i64 (-1 : Int)))) := (T135.loop [1, 0, 1, 0] 0 _ rfl).trans (by kernel_rfl)
theorem e_slices_IndexFunc_int_int (a0 : List PV) (a1 : PV) : wc W n_slices_IndexFunc_int_int [(PV.slice 0 a0), a1] =
  (L_slices_IndexFunc_int_int_1 a0 a1 (((List.length a0) : Nat) : Int) (0 : Int)) := go (by kernel_rfl) (by kernel_rfl) T135 (by kernel_rfl)
noncomputable def jF154 : Jn PV := (Classical.choose (exT fi154 (fin cfg fi154))).1
noncomputable def lF154 : Ln PV := (Classical.choose (exT fi154 (fin cfg fi154))).2
theorem T154 : Tied cfg W fi154 (fin cfg fi154) jF154 lF154 := Classical.choose_spec (exT fi154 (fin cfg fi154))
theorem e_bag_Group_1 (a0 : Int) (c0_0 : List PV) (c0_1 : List PV) : wc W n_bag_Group_1 [(PV.int .i64 a0), (PV.imm 3 (PV.agg [(PV.slice 0 c0_0), (PV.slice 0 c0_1)]) 0)] =
  (((wc W n_slices_Contains_int_int [(PV.slice 0 c0_0), (PV.int .i64 a0)])).bind (fun v1 => (c_b v1 (fun v2 => (some (PV.bool (!v2))))))) := go (by kernel_rfl) (by kernel_rfl) T154 (by kernel_rfl)
noncomputable def jF156 : Jn PV := (Classical.choose (exT fi156 (fin cfg fi156))).1
noncomputable def lF156 : Ln PV := (Classical.choose (exT fi156 (fin cfg fi156))).2
theorem T156 : Tied cfg W fi156 (fin cfg fi156) jF156 lF156 := Classical.choose_spec (exT fi156 (fin cfg fi156))
theorem e_val_Of (a0 : Int) : wc W n_val_Of [(PV.int .i64 a0)] =
  (some (PV.agg [(PV.int .i64 (0 : Int)), (PV.int .i64 a0)])) := go (by kernel_rfl) (by kernel_rfl) T156 (by kernel_rfl)
noncomputable def jF157 : Jn PV := (Classical.choose (exT fi157 (fin cfg fi157))).1
noncomputable def lF157 : Ln PV := (Classical.choose (exT fi157 (fin cfg fi157))).2
theorem T157 : Tied cfg W fi157 (fin cfg fi157) jF157 lF157 := Classical.choose_spec (exT fi157 (fin cfg fi157))
noncomputable def L_val_Sum_1 (i7 : Int) (i8 : Int) (i9 : Int) (l10 : List PV) (i11 : Int) (i12 : Int) (i13 : Int) (i14 : Int) : Option PV := lF157 [0, 1, 0, 1, 1, 1, 1] 1 (St.mk [(2, (AV.own 0 0)), (3, (AV.pv (PV.int IntKind.u64 i7))), (4, (AV.pv (PV.int IntKind.u64 i8))), (5, (AV.pv (PV.int .i64 i9))), (14, (AV.pv (PV.slice 3 l10))), (15, (AV.pv (PV.int .i64 i11))), (16, (AV.pv (PV.int .i64 i12)))] [(Ob.var false 3 (AV.pv (PV.agg [(PV.int .i64 i13), (PV.int .i64 i14)])))])
theorem L_val_Sum_1_eq (i7 : Int) (i8 : Int) (i9 : Int) (l10 : List PV) (i11 : Int) (i12 : Int) (i13 : Int) (i14 : Int) : L_val_Sum_1 i7 i8 i9 l10 i11 i12 i13 i14 =
  (bif (decide (i12 < i11)) then (bif (decide ((0 : Int) ≤ i12)) then (((l10)[(Int.toNat i12)]?).bind (fun v15 => (c_g_i64_i64 v15 (fun v16 v17 => (bif (v16 != (0 : Int)) then (L_val_Sum_1 i7 i8 i9 l10 i11 (IntKind.wrap .i64 (i12 + (1 : Int) : Int)) i13 i14) else (((wc W n_bits_Add64 [(PV.int IntKind.u64 i8), (PV.int IntKind.u64 (IntKind.wrap .u64 v17)), (PV.int IntKind.u64 (0 : Int))])).bind (fun v18 => (((PV.asTup v18)).bind (fun v19 => (((v19)[0]?).bind (fun v20 => (c_u64 v20 (fun v21 => (((PV.asTup v18)).bind (fun v22 => (((v22)[1]?).bind (fun v23 => (c_u64 v23 (fun v24 => (L_val_Sum_1 (IntKind.wrap .u64 (i7 + (IntKind.wrap .u64 (v24 + (IntKind.wrap .u64 (Int.fdiv v17 (9223372036854775808 : Int))) : Int)) : Int)) v21 (IntKind.wrap .i64 (i9 + (1 : Int) : Int)) l10 i11 (IntKind.wrap .i64 (i12 + (1 : Int) : Int)) i13 i14)))))))))))))))))))) else none) else (bif (i9 == (0 : Int)) then (((wc W n_val_null [])).bind (fun v25 => (c_g_i64_i64 v25 (fun v26 v27 => (some (PV.agg [(PV.int .i64 v26), (PV.int .i64 v27)])))))) else (bif (i7 != (IntKind.wrap .u64 (Int.fdiv (IntKind.wrap .i64 i8) (9223372036854775808 : Int)))) then (((wc W n_val_bad [])).bind (fun v28 => (c_g_i64_i64 v28 (fun v29 v30 => (some (PV.agg [(PV.int .i64 v29), (PV.int .i64 v30)])))))) else (((wc W n_val_Of [(PV.int .i64 (IntKind.wrap .i64 i8))])).bind (fun v31 => (c_g_i64_i64 v31 (fun v32 v33 => (some (PV.agg [(PV.int .i64 v32), (PV.int .i64 v33)]))))))))) := (T157.loop [1, 1, 1, 1, 0, 1, 0] 1 _ rfl).trans (by kernel_rfl)
theorem e_val_Sum (a0 : List PV) : wc W n_val_Sum [(PV.slice 3 a0)] =
  (((wc W n_val_kind [(PV.int .i64 (2 : Int))])).bind (fun v1 => (((wc W n_val_some_api_Val [(PV.slice 3 a0), v1])).bind (fun v2 => (c_b v2 (fun v3 => (bif v3 then (((wc W n_val_bad [])).bind (fun v4 => (c_g_i64_i64 v4 (fun v5 v6 => (some (PV.agg [(PV.int .i64 v5), (PV.int .i64 v6)])))))) else (L_val_Sum_1 (0 : Int) (0 : Int) (0 : Int) a0 (((List.length a0) : Nat) : Int) (0 : Int) (0 : Int) (0 : Int))))))))) := go (by kernel_rfl) (by kernel_rfl) T157 (by kernel_rfl)
noncomputable def jF165 : Jn PV := (Classical.choose (exT fi165 (fin cfg fi165))).1
noncomputable def lF165 : Ln PV := (Classical.choose (exT fi165 (fin cfg fi165))).2
theorem T165 : Tied cfg W fi165 (fin cfg fi165) jF165 lF165 := Classical.choose_spec (exT fi165 (fin cfg fi165))
noncomputable def L_slices_IndexFunc_api_Val_api_Val_b1f6_1 (l1 : List PV) (p2 : PV) (i3 : Int) (i4 : Int) : Option PV := lF165 [0, 1, 0, 1] 0 (St.mk [(0, (AV.pv (PV.slice 3 l1))), (1, (AV.pv p2)), (7, (AV.pv (PV.int .i64 i3))), (8, (AV.pv (PV.int .i64 i4)))] [])
theorem L_slices_IndexFunc_api_Val_api_Val_b1f6_1_eq (l1 : List PV) (p2 : PV) (i3 : Int) (i4 : Int) : L_slices_IndexFunc_api_Val_api_Val_b1f6_1 l1 p2 i3 i4 =
  (bif (decide (i4 < i3)) then (bif (decide ((0 : Int) ≤ i4)) then (((l1)[(Int.toNat i4)]?).bind (fun v5 => (c_g_i64_i64 v5 (fun v6 v7 => (((PV.asFn p2)).bind (fun v8 => (((wc W (Prod.fst v8) (((Prod.fst (Prod.snd v8)) ++ [(PV.agg [(PV.int .i64 v6), (PV.int .i64 v7)])]) ++ (Prod.snd (Prod.snd v8))))).bind (fun v9 => (c_b v9 (fun v10 => (bif v10 then (some (PV.int .i64 i4)) else (L_slices_IndexFunc_api_Val_api_Val_b1f6_1 l1 p2 i3 (IntKind.wrap .i64 (i4 + (1 : Int) : Int)))))))))))))) else none) else (some (PV.int .i64 (-1 : Int)))) := (T165.loop [1, 0, 1, 0] 0 _ rfl).trans (by kernel_rfl)
theorem e_slices_IndexFunc_api_Val_api_Val_b1f6 (a0 : List PV) (a1 : PV) : wc W n_slices_IndexFunc_api_Val_api_Val_b1f6 [(PV.slice 3 a0), a1] =
  (L_slices_IndexFunc_api_Val_api_Val_b1f6_1 a0 a1 (((List.length a0) : Nat) : Int) (0 : Int)) := go (by kernel_rfl) (by kernel_rfl) T165 (by kernel_rfl)
noncomputable def jF170 : Jn PV := (Classical.choose (exT fi170 (fin cfg fi170))).1
noncomputable def lF170 : Ln PV := (Classical.choose (exT fi170 (fin cfg fi170))).2
theorem T170 : Tied cfg W fi170 (fin cfg fi170) jF170 lF170 := Classical.choose_spec (exT fi170 (fin cfg fi170))
noncomputable def L_slices_stableCmpFunc_api_Val_1 (l1 : List PV) (i2 : Int) (p3 : PV) (i4 : Int) (i5 : Int) (i6 : Int) : Option PV := lF170 [0, 0, 1, 1] 0 (St.mk [(0, (AV.pv (PV.slice 0 l1))), (1, (AV.pv (PV.int .i64 i2))), (2, (AV.pv p3)), (6, (AV.pv (PV.int .i64 i4))), (7, (AV.pv (PV.int .i64 i5))), (8, (AV.pv (PV.int .i64 i6)))] [])
noncomputable def L_slices_stableCmpFunc_api_Val_2 (l9 : List PV) (i10 : Int) (p11 : PV) (i12 : Int) : Option PV := lF170 [0, 1, 1, 1, 1] 0 (St.mk [(0, (AV.pv (PV.slice 0 l9))), (1, (AV.pv (PV.int .i64 i10))), (2, (AV.pv p11)), (6, (AV.pv (PV.int .i64 i12)))] [])
noncomputable def L_slices_stableCmpFunc_api_Val_3 (l13 : List PV) (i14 : Int) (p15 : PV) (i16 : Int) (i17 : Int) (i18 : Int) : Option PV := lF170 [0, 0, 1, 0, 1, 0, 0, 1, 1, 1, 1] 0 (St.mk [(0, (AV.pv (PV.slice 0 l13))), (1, (AV.pv (PV.int .i64 i14))), (2, (AV.pv p15)), (6, (AV.pv (PV.int .i64 i16))), (7, (AV.pv (PV.int .i64 i17))), (8, (AV.pv (PV.int .i64 i18)))] [])
theorem L_slices_stableCmpFunc_api_Val_1_eq (l1 : List PV) (i2 : Int) (p3 : PV) (i4 : Int) (i5 : Int) (i6 : Int) : L_slices_stableCmpFunc_api_Val_1 l1 i2 p3 i4 i5 i6 =
  (bif (decide (i6 ≤ i2)) then (((wc W n_slices_insertionSortCmpFunc_api_Val [(PV.slice 0 l1), (PV.int .i64 i5), (PV.int .i64 i6), p3])).bind (fun v7 => (L_slices_stableCmpFunc_api_Val_1 l1 i2 p3 i4 i6 (IntKind.wrap .i64 (i6 + i4 : Int))))) else (((wc W n_slices_insertionSortCmpFunc_api_Val [(PV.slice 0 l1), (PV.int .i64 i5), (PV.int .i64 i2), p3])).bind (fun v8 => (L_slices_stableCmpFunc_api_Val_2 l1 i2 p3 i4)))) := (T170.loop [1, 1, 0, 0] 0 _ rfl).trans (by kernel_rfl)
theorem L_slices_stableCmpFunc_api_Val_2_eq (l9 : List PV) (i10 : Int) (p11 : PV) (i12 : Int) : L_slices_stableCmpFunc_api_Val_2 l9 i10 p11 i12 =
  (bif (decide (i12 < i10)) then (L_slices_stableCmpFunc_api_Val_3 l9 i10 p11 i12 (0 : Int) (IntKind.wrap .i64 ((2 : Int) * i12 : Int))) else (some (PV.tup []))) := (T170.loop [1, 1, 1, 1, 0] 0 _ rfl).trans (by kernel_rfl)
theorem L_slices_stableCmpFunc_api_Val_3_eq (l13 : List PV) (i14 : Int) (p15 : PV) (i16 : Int) (i17 : Int) (i18 : Int) : L_slices_stableCmpFunc_api_Val_3 l13 i14 p15 i16 i17 i18 =
  (bif (decide (i18 ≤ i14)) then (((wc W n_slices_symMergeCmpFunc_api_Val [(PV.slice 0 l13), (PV.int .i64 i17), (PV.int .i64 (IntKind.wrap .i64 (i17 + i16 : Int))), (PV.int .i64 i18), p15])).bind (fun v19 => (L_slices_stableCmpFunc_api_Val_3 l13 i14 p15 i16 i18 (IntKind.wrap .i64 (i18 + (IntKind.wrap .i64 ((2 : Int) * i16 : Int)) : Int))))) else (bif (decide ((IntKind.wrap .i64 (i17 + i16 : Int)) < i14)) then (((wc W n_slices_symMergeCmpFunc_api_Val [(PV.slice 0 l13), (PV.int .i64 i17), (PV.int .i64 (IntKind.wrap .i64 (i17 + i16 : Int))), (PV.int .i64 i14), p15])).bind (fun v20 => (L_slices_stableCmpFunc_api_Val_2 l13 i14 p15 (IntKind.wrap .i64 (i16 * (2 : Int) : Int))))) else (L_slices_stableCmpFunc_api_Val_2 l13 i14 p15 (IntKind.wrap .i64 (i16 * (2 : Int) : Int))))) := (T170.loop [1, 1, 1, 1, 0, 0, 1, 0, 1, 0, 0] 0 _ rfl).trans (by kernel_rfl)
theorem e_slices_stableCmpFunc_api_Val (a0 : List PV) (a1 : Int) (a2 : PV) : wc W n_slices_stableCmpFunc_api_Val [(PV.slice 0 a0), (PV.int .i64 a1), a2] =
  (L_slices_stableCmpFunc_api_Val_1 a0 a1 a2 (20 : Int) (0 : Int) (20 : Int)) := go (by kernel_rfl) (by kernel_rfl) T170 (by kernel_rfl)
noncomputable def jF170o2 : Jn (AV × List Ob) := (Classical.choose (exT fi170 (finO cfg fi170 false 2))).1
noncomputable def lF170o2 : Ln (AV × List Ob) := (Classical.choose (exT fi170 (finO cfg fi170 false 2))).2
theorem T170o2 : Tied cfg W fi170 (finO cfg fi170 false 2) jF170o2 lF170o2 := Classical.choose_spec (exT fi170 (finO cfg fi170 false 2))
noncomputable def L_slices_stableCmpFunc_api_Val_o2_1 (i1 : Int) (i2 : Int) (i3 : Int) (i4 : Int) (l5 : List PV) (i6 : Int) : Option (AV × List Ob) := lF170o2 [0, 0, 1, 1] 2 (St.mk [(0, (AV.fx 0 0)), (1, (AV.pv (PV.int .i64 i1))), (2, (AV.fnv n_bag_Sort_2 [] [(AV.own 1 0)])), (6, (AV.pv (PV.int .i64 i2))), (7, (AV.pv (PV.int .i64 i3))), (8, (AV.pv (PV.int .i64 i4)))] [(Ob.fix 0 0 l5), (Ob.var false 0 (AV.pv (PV.int .i64 i6)))])
noncomputable def L_slices_stableCmpFunc_api_Val_o2_2 (i23 : Int) (i24 : Int) (l25 : List PV) (i26 : Int) : Option (AV × List Ob) := lF170o2 [0, 1, 1, 1, 1] 2 (St.mk [(0, (AV.fx 0 0)), (1, (AV.pv (PV.int .i64 i23))), (2, (AV.fnv n_bag_Sort_2 [] [(AV.own 1 0)])), (6, (AV.pv (PV.int .i64 i24)))] [(Ob.fix 0 0 l25), (Ob.var false 0 (AV.pv (PV.int .i64 i26)))])
noncomputable def L_slices_stableCmpFunc_api_Val_o2_3 (i27 : Int) (i28 : Int) (i29 : Int) (i30 : Int) (l31 : List PV) (i32 : Int) : Option (AV × List Ob) := lF170o2 [0, 0, 1, 0, 1, 2, 0, 1, 1, 1, 1] 2 (St.mk [(0, (AV.fx 0 0)), (1, (AV.pv (PV.int .i64 i27))), (2, (AV.fnv n_bag_Sort_2 [] [(AV.own 1 0)])), (6, (AV.pv (PV.int .i64 i28))), (7, (AV.pv (PV.int .i64 i29))), (8, (AV.pv (PV.int .i64 i30)))] [(Ob.fix 0 0 l31), (Ob.var false 0 (AV.pv (PV.int .i64 i32)))])
theorem L_slices_stableCmpFunc_api_Val_o2_1_eq (i1 : Int) (i2 : Int) (i3 : Int) (i4 : Int) (l5 : List PV) (i6 : Int) : L_slices_stableCmpFunc_api_Val_o2_1 i1 i2 i3 i4 l5 i6 =
  (bif (decide (i4 ≤ i1)) then (((W n_slices_insertionSortCmpFunc_api_Val false [(AV.fx 0 0), (AV.pv (PV.int .i64 i3)), (AV.pv (PV.int .i64 i4)), (AV.fnv n_bag_Sort_2 [] [(AV.own 1 0)])] [(Ob.fix 0 0 l5), (Ob.var false 0 (AV.pv (PV.int .i64 i6)))])).bind (fun v11 => (k_c4d914 v11 (fun v12 v13 v14 => (L_slices_stableCmpFunc_api_Val_o2_1 i1 i2 i4 (IntKind.wrap .i64 (i4 + i2 : Int)) v13 v14))))) else (((W n_slices_insertionSortCmpFunc_api_Val false [(AV.fx 0 0), (AV.pv (PV.int .i64 i3)), (AV.pv (PV.int .i64 i1)), (AV.fnv n_bag_Sort_2 [] [(AV.own 1 0)])] [(Ob.fix 0 0 l5), (Ob.var false 0 (AV.pv (PV.int .i64 i6)))])).bind (fun v19 => (k_c4d914 v19 (fun v20 v21 v22 => (L_slices_stableCmpFunc_api_Val_o2_2 i1 i2 v21 v22)))))) := (T170o2.loop [1, 1, 0, 0] 2 _ rfl).trans (by kernel_rfl)
theorem L_slices_stableCmpFunc_api_Val_o2_2_eq (i23 : Int) (i24 : Int) (l25 : List PV) (i26 : Int) : L_slices_stableCmpFunc_api_Val_o2_2 i23 i24 l25 i26 =
  (bif (decide (i24 < i23)) then (L_slices_stableCmpFunc_api_Val_o2_3 i23 i24 (0 : Int) (IntKind.wrap .i64 ((2 : Int) * i24 : Int)) l25 i26) else (some ((AV.pv (PV.tup [])), [(Ob.fix 0 0 l25), (Ob.var false 0 (AV.pv (PV.int .i64 i26)))]))) := (T170o2.loop [1, 1, 1, 1, 0] 2 _ rfl).trans (by kernel_rfl)
theorem L_slices_stableCmpFunc_api_Val_o2_3_eq (i27 : Int) (i28 : Int) (i29 : Int) (i30 : Int) (l31 : List PV) (i32 : Int) : L_slices_stableCmpFunc_api_Val_o2_3 i27 i28 i29 i30 l31 i32 =
  (bif (decide (i30 ≤ i27)) then (((W n_slices_symMergeCmpFunc_api_Val false [(AV.fx 0 0), (AV.pv (PV.int .i64 i29)), (AV.pv (PV.int .i64 (IntKind.wrap .i64 (i29 + i28 : Int)))), (AV.pv (PV.int .i64 i30)), (AV.fnv n_bag_Sort_2 [] [(AV.own 1 0)])] [(Ob.fix 0 0 l31), (Ob.var false 0 (AV.pv (PV.int .i64 i32)))])).bind (fun v38 => (k_c4d914 v38 (fun v39 v40 v41 => (L_slices_stableCmpFunc_api_Val_o2_3 i27 i28 i30 (IntKind.wrap .i64 (i30 + (IntKind.wrap .i64 ((2 : Int) * i28 : Int)) : Int)) v40 v41))))) else (bif (decide ((IntKind.wrap .i64 (i29 + i28 : Int)) < i27)) then (((W n_slices_symMergeCmpFunc_api_Val false [(AV.fx 0 0), (AV.pv (PV.int .i64 i29)), (AV.pv (PV.int .i64 (IntKind.wrap .i64 (i29 + i28 : Int)))), (AV.pv (PV.int .i64 i27)), (AV.fnv n_bag_Sort_2 [] [(AV.own 1 0)])] [(Ob.fix 0 0 l31), (Ob.var false 0 (AV.pv (PV.int .i64 i32)))])).bind (fun v47 => (k_c4d914 v47 (fun v48 v49 v50 => (L_slices_stableCmpFunc_api_Val_o2_2 i27 (IntKind.wrap .i64 (i28 * (2 : Int) : Int)) v49 v50))))) else (L_slices_stableCmpFunc_api_Val_o2_2 i27 (IntKind.wrap .i64 (i28 * (2 : Int) : Int)) l31 i32))) := (T170o2.loop [1, 1, 1, 1, 0, 2, 1, 0, 1, 0, 0] 2 _ rfl).trans (by kernel_rfl)
theorem o_slices_stableCmpFunc_api_Val_o2_1 (i0 : Int) (l1 : List PV) (i2 : Int) : W n_slices_stableCmpFunc_api_Val false [(AV.fx 0 0), (AV.pv (PV.int .i64 i0)), (AV.fnv n_bag_Sort_2 [] [(AV.own 1 0)])] [(Ob.fix 0 0 l1), (Ob.var false 0 (AV.pv (PV.int .i64 i2)))] =
  (L_slices_stableCmpFunc_api_Val_o2_1 i0 (20 : Int) (0 : Int) (20 : Int) l1 i2) := goO (by kernel_rfl) (by kernel_rfl) T170o2 rfl (by kernel_rfl)
noncomputable def jF182 : Jn PV := (Classical.choose (exT fi182 (fin cfg fi182))).1
noncomputable def lF182 : Ln PV := (Classical.choose (exT fi182 (fin cfg fi182))).2
theorem T182 : Tied cfg W fi182 (fin cfg fi182) jF182 lF182 := Classical.choose_spec (exT fi182 (fin cfg fi182))
theorem e_cmp_Compare_int (a0 : Int) (a1 : Int) : wc W n_cmp_Compare_int [(PV.int .i64 a0), (PV.int .i64 a1)] =
  (((wc W n_cmp_isNaN_int [(PV.int .i64 a0)])).bind (fun v1 => (c_b v1 (fun v2 => (((wc W n_cmp_isNaN_int [(PV.int .i64 a1)])).bind (fun v3 => (c_b v3 (fun v4 => (bif v2 then (bif v4 then (some (PV.int .i64 (0 : Int))) else (some (PV.int .i64 (-1 : Int)))) else (bif v4 then (some (PV.int .i64 (1 : Int))) else (bif (decide (a0 < a1)) then (some (PV.int .i64 (-1 : Int))) else (bif (decide (GT.gt a0 a1)) then (some (PV.int .i64 (1 : Int))) else (some (PV.int .i64 (0 : Int))))))))))))))) := go (by kernel_rfl) (by kernel_rfl) T182 (by kernel_rfl)
noncomputable def jF200 : Jn PV := (Classical.choose (exT fi200 (fin cfg fi200))).1
noncomputable def lF200 : Ln PV := (Classical.choose (exT fi200 (fin cfg fi200))).2
theorem T200 : Tied cfg W fi200 (fin cfg fi200) jF200 lF200 := Classical.choose_spec (exT fi200 (fin cfg fi200))
theorem e_val_some_api_Val (a0 : List PV) (a1 : PV) : wc W n_val_some_api_Val [(PV.slice 3 a0), a1] =
  (((wc W n_slices_ContainsFunc_api_Val_api_Val_c5fc [(PV.slice 3 a0), a1])).bind (fun v1 => (c_b v1 (fun v2 => (some (PV.bool v2)))))) := go (by kernel_rfl) (by kernel_rfl) T200 (by kernel_rfl)
noncomputable def jF201 : Jn PV := (Classical.choose (exT fi201 (fin cfg fi201))).1
noncomputable def lF201 : Ln PV := (Classical.choose (exT fi201 (fin cfg fi201))).2
theorem T201 : Tied cfg W fi201 (fin cfg fi201) jF201 lF201 := Classical.choose_spec (exT fi201 (fin cfg fi201))
theorem e_val_kind (a0 : Int) : wc W n_val_kind [(PV.int .i64 a0)] =
  (some (PV.fn n_val_kind_1 [] [(PV.imm 0 (PV.int .i64 a0) 0)])) := go (by kernel_rfl) (by kernel_rfl) T201 (by kernel_rfl)
noncomputable def jF202 : Jn PV := (Classical.choose (exT fi202 (fin cfg fi202))).1
noncomputable def lF202 : Ln PV := (Classical.choose (exT fi202 (fin cfg fi202))).2
theorem T202 : Tied cfg W fi202 (fin cfg fi202) jF202 lF202 := Classical.choose_spec (exT fi202 (fin cfg fi202))
theorem e_val_bad  : wc W n_val_bad [] =
  (some (PV.agg [(PV.int .i64 (2 : Int)), (PV.int .i64 (0 : Int))])) := go (by kernel_rfl) (by kernel_rfl) T202 (by kernel_rfl)
noncomputable def jF204 : Jn PV := (Classical.choose (exT fi204 (fin cfg fi204))).1
noncomputable def lF204 : Ln PV := (Classical.choose (exT fi204 (fin cfg fi204))).2
theorem T204 : Tied cfg W fi204 (fin cfg fi204) jF204 lF204 := Classical.choose_spec (exT fi204 (fin cfg fi204))
theorem e_val_null  : wc W n_val_null [] =
  (some (PV.agg [(PV.int .i64 (1 : Int)), (PV.int .i64 (0 : Int))])) := go (by kernel_rfl) (by kernel_rfl) T204 (by kernel_rfl)
noncomputable def jF211 : Jn PV := (Classical.choose (exT fi211 (fin cfg fi211))).1
noncomputable def lF211 : Ln PV := (Classical.choose (exT fi211 (fin cfg fi211))).2
theorem T211 : Tied cfg W fi211 (fin cfg fi211) jF211 lF211 := Classical.choose_spec (exT fi211 (fin cfg fi211))
noncomputable def L_slices_insertionSortCmpFunc_api_Val_1 (l1 : List PV) (i2 : Int) (i3 : Int) (p4 : PV) (i5 : Int) : Option PV := lF211 [0, 1] 0 (St.mk [(0, (AV.pv (PV.slice 0 l1))), (1, (AV.pv (PV.int .i64 i2))), (2, (AV.pv (PV.int .i64 i3))), (3, (AV.pv p4)), (8, (AV.pv (PV.int .i64 i5)))] [])
noncomputable def L_slices_insertionSortCmpFunc_api_Val_2 (l6 : List PV) (i7 : Int) (i8 : Int) (p9 : PV) (i10 : Int) (i11 : Int) : Option PV := lF211 [0, 1, 0, 0, 1, 0, 0, 1] 0 (St.mk [(0, (AV.pv (PV.slice 0 l6))), (1, (AV.pv (PV.int .i64 i7))), (2, (AV.pv (PV.int .i64 i8))), (3, (AV.pv p9)), (8, (AV.pv (PV.int .i64 i10))), (9, (AV.pv (PV.int .i64 i11)))] [])
noncomputable def J_slices_insertionSortCmpFunc_api_Val_3 (l19 : List PV) (i20 : Int) (i21 : Int) (p22 : PV) (i23 : Int) (i24 : Int) : Option PV := jF211 [1, 0, 0, 1, 0, 0, 1, 0, 0, 1] (St.mk [(0, (AV.pv (PV.slice 0 l19))), (1, (AV.pv (PV.int .i64 i20))), (2, (AV.pv (PV.int .i64 i21))), (3, (AV.pv p22)), (8, (AV.pv (PV.int .i64 i23))), (9, (AV.pv (PV.int .i64 i24)))] [])
theorem L_slices_insertionSortCmpFunc_api_Val_1_eq (l1 : List PV) (i2 : Int) (i3 : Int) (p4 : PV) (i5 : Int) : L_slices_insertionSortCmpFunc_api_Val_1 l1 i2 i3 p4 i5 =
  (bif (decide (i5 < i3)) then (L_slices_insertionSortCmpFunc_api_Val_2 l1 i2 i3 p4 i5 i5) else (some (PV.tup []))) := (T211.loop [1, 0] 0 _ rfl).trans (by kernel_rfl)
theorem L_slices_insertionSortCmpFunc_api_Val_2_eq (l6 : List PV) (i7 : Int) (i8 : Int) (p9 : PV) (i10 : Int) (i11 : Int) : L_slices_insertionSortCmpFunc_api_Val_2 l6 i7 i8 p9 i10 i11 =
  (bif (decide (GT.gt i11 i7)) then (bif (decide ((0 : Int) ≤ i11)) then (((l6)[(Int.toNat i11)]?).bind (fun v12 => (c_s3 v12 (fun v13 => (bif (decide ((0 : Int) ≤ (IntKind.wrap .i64 (i11 - (1 : Int) : Int)))) then (((l6)[(Int.toNat (IntKind.wrap .i64 (i11 - (1 : Int) : Int)))]?).bind (fun v14 => (c_s3 v14 (fun v15 => (((PV.asFn p9)).bind (fun v16 => (((wc W (Prod.fst v16) (((Prod.fst (Prod.snd v16)) ++ [(PV.slice 3 v13), (PV.slice 3 v15)]) ++ (Prod.snd (Prod.snd v16))))).bind (fun v17 => (c_i64 v17 (fun v18 => (bif (decide (v18 < (0 : Int))) then (J_slices_insertionSortCmpFunc_api_Val_3 l6 i7 i8 p9 i10 i11) else (L_slices_insertionSortCmpFunc_api_Val_1 l6 i7 i8 p9 (IntKind.wrap .i64 (i10 + (1 : Int) : Int)))))))))))))) else none))))) else none) else (L_slices_insertionSortCmpFunc_api_Val_1 l6 i7 i8 p9 (IntKind.wrap .i64 (i10 + (1 : Int) : Int)))) := (T211.loop [1, 0, 0, 1, 0, 0, 1, 0] 0 _ rfl).trans (by kernel_rfl)
theorem J_slices_insertionSortCmpFunc_api_Val_3_eq (l19 : List PV) (i20 : Int) (i21 : Int) (p22 : PV) (i23 : Int) (i24 : Int) : J_slices_insertionSortCmpFunc_api_Val_3 l19 i20 i21 p22 i23 i24 =
  (bif (decide ((0 : Int) ≤ (IntKind.wrap .i64 (i24 - (1 : Int) : Int)))) then (((l19)[(Int.toNat (IntKind.wrap .i64 (i24 - (1 : Int) : Int)))]?).bind (fun v25 => (c_s3 v25 (fun v26 => (bif (decide ((0 : Int) ≤ i24)) then (((l19)[(Int.toNat i24)]?).bind (fun v27 => (c_s3 v27 (fun v28 => (bif (decide ((0 : Int) ≤ i24)) then (((l19)[(Int.toNat i24)]?).bind (fun v29 => none)) else none))))) else none))))) else none) := (T211.join [1, 0, 0, 1, 0, 0, 1, 0, 0, 1] _).trans (by kernel_rfl)
theorem e_slices_insertionSortCmpFunc_api_Val (a0 : List PV) (a1 : Int) (a2 : Int) (a3 : PV) : wc W n_slices_insertionSortCmpFunc_api_Val [(PV.slice 0 a0), (PV.int .i64 a1), (PV.int .i64 a2), a3] =
  (L_slices_insertionSortCmpFunc_api_Val_1 a0 a1 a2 a3 (IntKind.wrap .i64 (a1 + (1 : Int) : Int))) := go (by kernel_rfl) (by kernel_rfl) T211 (by kernel_rfl)
noncomputable def jF211o2 : Jn (AV × List Ob) := (Classical.choose (exT fi211 (finO cfg fi211 false 2))).1
noncomputable def lF211o2 : Ln (AV × List Ob) := (Classical.choose (exT fi211 (finO cfg fi211 false 2))).2
theorem T211o2 : Tied cfg W fi211 (finO cfg fi211 false 2) jF211o2 lF211o2 := Classical.choose_spec (exT fi211 (finO cfg fi211 false 2))
noncomputable def L_slices_insertionSortCmpFunc_api_Val_o2_1 (i1 : Int) (i2 : Int) (i3 : Int) (l4 : List PV) (i5 : Int) : Option (AV × List Ob) := lF211o2 [0, 1] 2 (St.mk [(0, (AV.fx 0 0)), (1, (AV.pv (PV.int .i64 i1))), (2, (AV.pv (PV.int .i64 i2))), (3, (AV.fnv n_bag_Sort_2 [] [(AV.own 1 0)])), (8, (AV.pv (PV.int .i64 i3)))] [(Ob.fix 0 0 l4), (Ob.var false 0 (AV.pv (PV.int .i64 i5)))])
noncomputable def L_slices_insertionSortCmpFunc_api_Val_o2_2 (i6 : Int) (i7 : Int) (i8 : Int) (i9 : Int) (l10 : List PV) (i11 : Int) : Option (AV × List Ob) := lF211o2 [0, 1, 0, 0, 1, 2, 0, 1] 2 (St.mk [(0, (AV.fx 0 0)), (1, (AV.pv (PV.int .i64 i6))), (2, (AV.pv (PV.int .i64 i7))), (3, (AV.fnv n_bag_Sort_2 [] [(AV.own 1 0)])), (8, (AV.pv (PV.int .i64 i8))), (9, (AV.pv (PV.int .i64 i9)))] [(Ob.fix 0 0 l10), (Ob.var false 0 (AV.pv (PV.int .i64 i11)))])
noncomputable def J_slices_insertionSortCmpFunc_api_Val_o2_3 (i23 : Int) (i24 : Int) (i25 : Int) (i26 : Int) (l27 : List PV) (i28 : Int) : Option (AV × List Ob) := jF211o2 [1, 2, 0, 1, 0, 0, 1, 2, 0, 1] (St.mk [(0, (AV.fx 0 0)), (1, (AV.pv (PV.int .i64 i23))), (2, (AV.pv (PV.int .i64 i24))), (3, (AV.fnv n_bag_Sort_2 [] [(AV.own 1 0)])), (8, (AV.pv (PV.int .i64 i25))), (9, (AV.pv (PV.int .i64 i26)))] [(Ob.fix 0 0 l27), (Ob.var false 0 (AV.pv (PV.int .i64 i28)))])
theorem L_slices_insertionSortCmpFunc_api_Val_o2_1_eq (i1 : Int) (i2 : Int) (i3 : Int) (l4 : List PV) (i5 : Int) : L_slices_insertionSortCmpFunc_api_Val_o2_1 i1 i2 i3 l4 i5 =
  (bif (decide (i3 < i2)) then (L_slices_insertionSortCmpFunc_api_Val_o2_2 i1 i2 i3 i3 l4 i5) else (some ((AV.pv (PV.tup [])), [(Ob.fix 0 0 l4), (Ob.var false 0 (AV.pv (PV.int .i64 i5)))]))) := (T211o2.loop [1, 0] 2 _ rfl).trans (by kernel_rfl)
theorem L_slices_insertionSortCmpFunc_api_Val_o2_2_eq (i6 : Int) (i7 : Int) (i8 : Int) (i9 : Int) (l10 : List PV) (i11 : Int) : L_slices_insertionSortCmpFunc_api_Val_o2_2 i6 i7 i8 i9 l10 i11 =
  (bif (decide (GT.gt i9 i6)) then (bif ((true && (decide ((0 : Int) ≤ i9))) && (decide (i9 < (((List.length l10) : Nat) : Int)))) then (((l10)[(Int.toNat i9)]?).bind (fun v12 => (c_s3 v12 (fun v13 => (bif ((true && (decide ((0 : Int) ≤ (IntKind.wrap .i64 (i9 - (1 : Int) : Int))))) && (decide ((IntKind.wrap .i64 (i9 - (1 : Int) : Int)) < (((List.length l10) : Nat) : Int)))) then (((l10)[(Int.toNat (IntKind.wrap .i64 (i9 - (1 : Int) : Int)))]?).bind (fun v14 => (c_s3 v14 (fun v15 => (((W n_bag_Sort_2 false [(AV.pv (PV.slice 3 v13)), (AV.pv (PV.slice 3 v15)), (AV.own 0 0)] [(Ob.var false 0 (AV.pv (PV.int .i64 i11)))])).bind (fun v19 => (k_5b106d v19 (fun v20 v21 => (c_i64 v20 (fun v22 => (bif (decide (v22 < (0 : Int))) then (J_slices_insertionSortCmpFunc_api_Val_o2_3 i6 i7 i8 i9 l10 v21) else (L_slices_insertionSortCmpFunc_api_Val_o2_1 i6 i7 (IntKind.wrap .i64 (i8 + (1 : Int) : Int)) l10 v21)))))))))))) else none))))) else none) else (L_slices_insertionSortCmpFunc_api_Val_o2_1 i6 i7 (IntKind.wrap .i64 (i8 + (1 : Int) : Int)) l10 i11)) := (T211o2.loop [1, 0, 2, 1, 0, 0, 1, 0] 2 _ rfl).trans (by kernel_rfl)
theorem J_slices_insertionSortCmpFunc_api_Val_o2_3_eq (i23 : Int) (i24 : Int) (i25 : Int) (i26 : Int) (l27 : List PV) (i28 : Int) : J_slices_insertionSortCmpFunc_api_Val_o2_3 i23 i24 i25 i26 l27 i28 =
  (bif ((true && (decide ((0 : Int) ≤ (IntKind.wrap .i64 (i26 - (1 : Int) : Int))))) && (decide ((IntKind.wrap .i64 (i26 - (1 : Int) : Int)) < (((List.length l27) : Nat) : Int)))) then (((l27)[(Int.toNat (IntKind.wrap .i64 (i26 - (1 : Int) : Int)))]?).bind (fun v29 => (c_s3 v29 (fun v30 => (bif ((true && (decide ((0 : Int) ≤ i26))) && (decide (i26 < (((List.length l27) : Nat) : Int)))) then (((l27)[(Int.toNat i26)]?).bind (fun v31 => (c_s3 v31 (fun v32 => (bif ((true && (decide ((0 : Int) ≤ i26))) && (decide (i26 < (((List.length l27) : Nat) : Int)))) then (((l27)[(Int.toNat i26)]?).bind (fun v33 => (bif ((true && (decide ((0 : Int) ≤ (IntKind.wrap .i64 (i26 - (1 : Int) : Int))))) && (decide ((IntKind.wrap .i64 (i26 - (1 : Int) : Int)) < (((List.length (List.set l27 (Int.toNat i26) (PV.slice 3 v30))) : Nat) : Int)))) then ((((List.set l27 (Int.toNat i26) (PV.slice 3 v30)))[(Int.toNat (IntKind.wrap .i64 (i26 - (1 : Int) : Int)))]?).bind (fun v34 => (L_slices_insertionSortCmpFunc_api_Val_o2_2 i23 i24 i25 (IntKind.wrap .i64 (i26 - (1 : Int) : Int)) (List.set (List.set l27 (Int.toNat i26) (PV.slice 3 v30)) (Int.toNat (IntKind.wrap .i64 (i26 - (1 : Int) : Int))) (PV.slice 3 v32)) i28))) else none))) else none))))) else none))))) else none) := (T211o2.join [1, 0, 2, 1, 0, 0, 1, 0, 2, 1] _).trans (by kernel_rfl)
theorem o_slices_insertionSortCmpFunc_api_Val_o2_1 (i0 : Int) (i1 : Int) (l2 : List PV) (i3 : Int) : W n_slices_insertionSortCmpFunc_api_Val false [(AV.fx 0 0), (AV.pv (PV.int .i64 i0)), (AV.pv (PV.int .i64 i1)), (AV.fnv n_bag_Sort_2 [] [(AV.own 1 0)])] [(Ob.fix 0 0 l2), (Ob.var false 0 (AV.pv (PV.int .i64 i3)))] =
  (L_slices_insertionSortCmpFunc_api_Val_o2_1 i0 i1 (IntKind.wrap .i64 (i0 + (1 : Int) : Int)) l2 i3) := goO (by kernel_rfl) (by kernel_rfl) T211o2 rfl (by kernel_rfl)
noncomputable def jF212 : Jn PV := (Classical.choose (exT fi212 (fin cfg fi212))).1
noncomputable def lF212 : Ln PV := (Classical.choose (exT fi212 (fin cfg fi212))).2
theorem T212 : Tied cfg W fi212 (fin cfg fi212) jF212 lF212 := Classical.choose_spec (exT fi212 (fin cfg fi212))
noncomputable def L_slices_symMergeCmpFunc_api_Val_1 (l1 : List PV) (i2 : Int) (p3 : PV) (i4 : Int) (i5 : Int) : Option PV := lF212 [0, 0, 1, 1, 0, 1, 0] 0 (St.mk [(0, (AV.pv (PV.slice 0 l1))), (1, (AV.pv (PV.int .i64 i2))), (4, (AV.pv p3)), (10, (AV.pv (PV.int .i64 i4))), (11, (AV.pv (PV.int .i64 i5)))] [])
noncomputable def L_slices_symMergeCmpFunc_api_Val_2 (l6 : List PV) (i7 : Int) (p8 : PV) (i9 : Int) (i10 : Int) : Option PV := lF212 [0, 0, 1, 1, 0, 1, 0, 1] 0 (St.mk [(0, (AV.pv (PV.slice 0 l6))), (2, (AV.pv (PV.int .i64 i7))), (4, (AV.pv p8)), (14, (AV.pv (PV.int .i64 i9))), (15, (AV.pv (PV.int .i64 i10)))] [])
noncomputable def J_slices_symMergeCmpFunc_api_Val_3 (l11 : List PV) (i12 : Int) (i13 : Int) (i14 : Int) (p15 : PV) (i16 : Int) (i17 : Int) (i18 : Int) (i19 : Int) : Option PV := jF212 [1, 1, 1, 1, 1, 1] (St.mk [(0, (AV.pv (PV.slice 0 l11))), (1, (AV.pv (PV.int .i64 i12))), (2, (AV.pv (PV.int .i64 i13))), (3, (AV.pv (PV.int .i64 i14))), (4, (AV.pv p15)), (18, (AV.pv (PV.int .i64 i16))), (19, (AV.pv (PV.int .i64 i17))), (20, (AV.pv (PV.int .i64 i18))), (21, (AV.pv (PV.int .i64 i19)))] [])
noncomputable def L_slices_symMergeCmpFunc_api_Val_4 (l27 : List PV) (i28 : Int) (i29 : Int) : Option PV := lF212 [0, 1, 0, 1, 1, 1, 0, 1, 0] 0 (St.mk [(0, (AV.pv (PV.slice 0 l27))), (10, (AV.pv (PV.int .i64 i28))), (13, (AV.pv (PV.int .i64 i29)))] [])
noncomputable def L_slices_symMergeCmpFunc_api_Val_5 (l37 : List PV) (i38 : Int) (i39 : Int) : Option PV := lF212 [0, 1, 0, 1, 1, 1, 0, 1, 0, 1] 0 (St.mk [(0, (AV.pv (PV.slice 0 l37))), (14, (AV.pv (PV.int .i64 i38))), (17, (AV.pv (PV.int .i64 i39)))] [])
noncomputable def L_slices_symMergeCmpFunc_api_Val_6 (l40 : List PV) (i41 : Int) (i42 : Int) (i43 : Int) (p44 : PV) (i45 : Int) (i46 : Int) (i47 : Int) (i48 : Int) (i49 : Int) : Option PV := lF212 [0, 0, 1, 1, 1, 1, 1, 1, 1] 0 (St.mk [(0, (AV.pv (PV.slice 0 l40))), (1, (AV.pv (PV.int .i64 i41))), (2, (AV.pv (PV.int .i64 i42))), (3, (AV.pv (PV.int .i64 i43))), (4, (AV.pv p44)), (18, (AV.pv (PV.int .i64 i45))), (19, (AV.pv (PV.int .i64 i46))), (20, (AV.pv (PV.int .i64 i47))), (21, (AV.pv (PV.int .i64 i48))), (22, (AV.pv (PV.int .i64 i49)))] [])
noncomputable def J_slices_symMergeCmpFunc_api_Val_7 (l67 : List PV) (i68 : Int) (i69 : Int) (i70 : Int) (p71 : PV) (i72 : Int) (i73 : Int) (i74 : Int) (b75 : Bool) : Option PV := jF212 [1, 0, 1, 1, 1, 1, 1, 1, 1, 1, 1] (St.mk [(0, (AV.pv (PV.slice 0 l67))), (1, (AV.pv (PV.int .i64 i68))), (2, (AV.pv (PV.int .i64 i69))), (3, (AV.pv (PV.int .i64 i70))), (4, (AV.pv p71)), (18, (AV.pv (PV.int .i64 i72))), (20, (AV.pv (PV.int .i64 i73))), (24, (AV.pv (PV.int .i64 i74))), (185, (AV.pv (PV.bool b75)))] [])
noncomputable def J_slices_symMergeCmpFunc_api_Val_8 (l77 : List PV) (i78 : Int) (i79 : Int) (p80 : PV) (i81 : Int) (i82 : Int) (i83 : Int) : Option PV := jF212 [1, 1, 1, 1, 1, 1, 1, 1, 1, 1] (St.mk [(0, (AV.pv (PV.slice 0 l77))), (1, (AV.pv (PV.int .i64 i78))), (3, (AV.pv (PV.int .i64 i79))), (4, (AV.pv p80)), (18, (AV.pv (PV.int .i64 i81))), (20, (AV.pv (PV.int .i64 i82))), (24, (AV.pv (PV.int .i64 i83)))] [])
noncomputable def J_slices_symMergeCmpFunc_api_Val_9 (l84 : List PV) (i85 : Int) (i86 : Int) (p87 : PV) (i88 : Int) (i89 : Int) (i90 : Int) (b91 : Bool) : Option PV := jF212 [1, 0, 1, 1, 1, 1, 1, 1, 1, 1, 1, 1] (St.mk [(0, (AV.pv (PV.slice 0 l84))), (1, (AV.pv (PV.int .i64 i85))), (3, (AV.pv (PV.int .i64 i86))), (4, (AV.pv p87)), (18, (AV.pv (PV.int .i64 i88))), (20, (AV.pv (PV.int .i64 i89))), (24, (AV.pv (PV.int .i64 i90))), (199, (AV.pv (PV.bool b91)))] [])
noncomputable def J_slices_symMergeCmpFunc_api_Val_10 (l93 : List PV) (i94 : Int) (p95 : PV) (i96 : Int) (i97 : Int) : Option PV := jF212 [1, 1, 1, 1, 1, 1, 1, 1, 1, 1, 1] (St.mk [(0, (AV.pv (PV.slice 0 l93))), (3, (AV.pv (PV.int .i64 i94))), (4, (AV.pv p95)), (18, (AV.pv (PV.int .i64 i96))), (24, (AV.pv (PV.int .i64 i97)))] [])
noncomputable def J_slices_symMergeCmpFunc_api_Val_11 (l98 : List PV) (i99 : Int) (p100 : PV) (i101 : Int) (i102 : Int) (b103 : Bool) : Option PV := jF212 [1, 1, 1, 1, 1, 1, 1, 1, 1, 1, 1, 1] (St.mk [(0, (AV.pv (PV.slice 0 l98))), (3, (AV.pv (PV.int .i64 i99))), (4, (AV.pv p100)), (18, (AV.pv (PV.int .i64 i101))), (24, (AV.pv (PV.int .i64 i102))), (213, (AV.pv (PV.bool b103)))] [])
theorem L_slices_symMergeCmpFunc_api_Val_1_eq (l1 : List PV) (i2 : Int) (p3 : PV) (i4 : Int) (i5 : Int) : L_slices_symMergeCmpFunc_api_Val_1 l1 i2 p3 i4 i5 =
  (bif (decide (i4 < i5)) then (bif (decide ((0 : Int) ≤ (IntKind.wrap .i64 (Int.fdiv (IntKind.wrap .u64 (IntKind.wrap .i64 (i4 + i5 : Int))) (2 : Int))))) then (((l1)[(Int.toNat (IntKind.wrap .i64 (Int.fdiv (IntKind.wrap .u64 (IntKind.wrap .i64 (i4 + i5 : Int))) (2 : Int))))]?).bind (fun v20 => (c_s3 v20 (fun v21 => (bif (decide ((0 : Int) ≤ i2)) then (((l1)[(Int.toNat i2)]?).bind (fun v22 => (c_s3 v22 (fun v23 => (((PV.asFn p3)).bind (fun v24 => (((wc W (Prod.fst v24) (((Prod.fst (Prod.snd v24)) ++ [(PV.slice 3 v21), (PV.slice 3 v23)]) ++ (Prod.snd (Prod.snd v24))))).bind (fun v25 => (c_i64 v25 (fun v26 => (bif (decide (v26 < (0 : Int))) then (L_slices_symMergeCmpFunc_api_Val_1 l1 i2 p3 (IntKind.wrap .i64 ((IntKind.wrap .i64 (Int.fdiv (IntKind.wrap .u64 (IntKind.wrap .i64 (i4 + i5 : Int))) (2 : Int))) + (1 : Int) : Int)) i5) else (L_slices_symMergeCmpFunc_api_Val_1 l1 i2 p3 i4 (IntKind.wrap .i64 (Int.fdiv (IntKind.wrap .u64 (IntKind.wrap .i64 (i4 + i5 : Int))) (2 : Int))))))))))))))) else none))))) else none) else (L_slices_symMergeCmpFunc_api_Val_4 l1 i4 i2)) := (T212.loop [0, 1, 0, 1, 1, 0, 0] 0 _ rfl).trans (by kernel_rfl)
theorem L_slices_symMergeCmpFunc_api_Val_2_eq (l6 : List PV) (i7 : Int) (p8 : PV) (i9 : Int) (i10 : Int) : L_slices_symMergeCmpFunc_api_Val_2 l6 i7 p8 i9 i10 =
  (bif (decide (i9 < i10)) then (bif (decide ((0 : Int) ≤ i7)) then (((l6)[(Int.toNat i7)]?).bind (fun v30 => (c_s3 v30 (fun v31 => (bif (decide ((0 : Int) ≤ (IntKind.wrap .i64 (Int.fdiv (IntKind.wrap .u64 (IntKind.wrap .i64 (i9 + i10 : Int))) (2 : Int))))) then (((l6)[(Int.toNat (IntKind.wrap .i64 (Int.fdiv (IntKind.wrap .u64 (IntKind.wrap .i64 (i9 + i10 : Int))) (2 : Int))))]?).bind (fun v32 => (c_s3 v32 (fun v33 => (((PV.asFn p8)).bind (fun v34 => (((wc W (Prod.fst v34) (((Prod.fst (Prod.snd v34)) ++ [(PV.slice 3 v31), (PV.slice 3 v33)]) ++ (Prod.snd (Prod.snd v34))))).bind (fun v35 => (c_i64 v35 (fun v36 => (bif (!(decide (v36 < (0 : Int)))) then (L_slices_symMergeCmpFunc_api_Val_2 l6 i7 p8 (IntKind.wrap .i64 ((IntKind.wrap .i64 (Int.fdiv (IntKind.wrap .u64 (IntKind.wrap .i64 (i9 + i10 : Int))) (2 : Int))) + (1 : Int) : Int)) i10) else (L_slices_symMergeCmpFunc_api_Val_2 l6 i7 p8 i9 (IntKind.wrap .i64 (Int.fdiv (IntKind.wrap .u64 (IntKind.wrap .i64 (i9 + i10 : Int))) (2 : Int))))))))))))))) else none))))) else none) else (L_slices_symMergeCmpFunc_api_Val_5 l6 i9 i7)) := (T212.loop [1, 0, 1, 0, 1, 1, 0, 0] 0 _ rfl).trans (by kernel_rfl)
theorem J_slices_symMergeCmpFunc_api_Val_3_eq (l11 : List PV) (i12 : Int) (i13 : Int) (i14 : Int) (p15 : PV) (i16 : Int) (i17 : Int) (i18 : Int) (i19 : Int) : J_slices_symMergeCmpFunc_api_Val_3 l11 i12 i13 i14 p15 i16 i17 i18 i19 =
  (L_slices_symMergeCmpFunc_api_Val_6 l11 i12 i13 i14 p15 i16 i17 i18 i19 (IntKind.wrap .i64 (i17 - (1 : Int) : Int))) := (T212.join [1, 1, 1, 1, 1, 1] _).trans (by kernel_rfl)
theorem L_slices_symMergeCmpFunc_api_Val_4_eq (l27 : List PV) (i28 : Int) (i29 : Int) : L_slices_symMergeCmpFunc_api_Val_4 l27 i28 i29 =
  (bif (decide (i29 < (IntKind.wrap .i64 (i28 - (1 : Int) : Int)))) then (bif (decide ((0 : Int) ≤ (IntKind.wrap .i64 (i29 + (1 : Int) : Int)))) then (((l27)[(Int.toNat (IntKind.wrap .i64 (i29 + (1 : Int) : Int)))]?).bind (fun v50 => (c_s3 v50 (fun v51 => (bif (decide ((0 : Int) ≤ i29)) then (((l27)[(Int.toNat i29)]?).bind (fun v52 => (c_s3 v52 (fun v53 => (bif (decide ((0 : Int) ≤ i29)) then (((l27)[(Int.toNat i29)]?).bind (fun v54 => none)) else none))))) else none))))) else none) else (some (PV.tup []))) := (T212.loop [0, 1, 0, 1, 1, 1, 0, 1, 0] 0 _ rfl).trans (by kernel_rfl)
theorem L_slices_symMergeCmpFunc_api_Val_5_eq (l37 : List PV) (i38 : Int) (i39 : Int) : L_slices_symMergeCmpFunc_api_Val_5 l37 i38 i39 =
  (bif (decide (GT.gt i39 i38)) then (bif (decide ((0 : Int) ≤ (IntKind.wrap .i64 (i39 - (1 : Int) : Int)))) then (((l37)[(Int.toNat (IntKind.wrap .i64 (i39 - (1 : Int) : Int)))]?).bind (fun v55 => (c_s3 v55 (fun v56 => (bif (decide ((0 : Int) ≤ i39)) then (((l37)[(Int.toNat i39)]?).bind (fun v57 => (c_s3 v57 (fun v58 => (bif (decide ((0 : Int) ≤ i39)) then (((l37)[(Int.toNat i39)]?).bind (fun v59 => none)) else none))))) else none))))) else none) else (some (PV.tup []))) := (T212.loop [1, 0, 1, 0, 1, 1, 1, 0, 1, 0] 0 _ rfl).trans (by kernel_rfl)
theorem L_slices_symMergeCmpFunc_api_Val_6_eq (l40 : List PV) (i41 : Int) (i42 : Int) (i43 : Int) (p44 : PV) (i45 : Int) (i46 : Int) (i47 : Int) (i48 : Int) (i49 : Int) : L_slices_symMergeCmpFunc_api_Val_6 l40 i41 i42 i43 p44 i45 i46 i47 i48 i49 =
  (bif (decide (i47 < i48)) then (bif (decide ((0 : Int) ≤ (IntKind.wrap .i64 (i49 - (IntKind.wrap .i64 (Int.fdiv (IntKind.wrap .u64 (IntKind.wrap .i64 (i47 + i48 : Int))) (2 : Int))) : Int)))) then (((l40)[(Int.toNat (IntKind.wrap .i64 (i49 - (IntKind.wrap .i64 (Int.fdiv (IntKind.wrap .u64 (IntKind.wrap .i64 (i47 + i48 : Int))) (2 : Int))) : Int)))]?).bind (fun v60 => (c_s3 v60 (fun v61 => (bif (decide ((0 : Int) ≤ (IntKind.wrap .i64 (Int.fdiv (IntKind.wrap .u64 (IntKind.wrap .i64 (i47 + i48 : Int))) (2 : Int))))) then (((l40)[(Int.toNat (IntKind.wrap .i64 (Int.fdiv (IntKind.wrap .u64 (IntKind.wrap .i64 (i47 + i48 : Int))) (2 : Int))))]?).bind (fun v62 => (c_s3 v62 (fun v63 => (((PV.asFn p44)).bind (fun v64 => (((wc W (Prod.fst v64) (((Prod.fst (Prod.snd v64)) ++ [(PV.slice 3 v61), (PV.slice 3 v63)]) ++ (Prod.snd (Prod.snd v64))))).bind (fun v65 => (c_i64 v65 (fun v66 => (bif (!(decide (v66 < (0 : Int)))) then (L_slices_symMergeCmpFunc_api_Val_6 l40 i41 i42 i43 p44 i45 i46 (IntKind.wrap .i64 ((IntKind.wrap .i64 (Int.fdiv (IntKind.wrap .u64 (IntKind.wrap .i64 (i47 + i48 : Int))) (2 : Int))) + (1 : Int) : Int)) i48 i49) else (L_slices_symMergeCmpFunc_api_Val_6 l40 i41 i42 i43 p44 i45 i46 i47 (IntKind.wrap .i64 (Int.fdiv (IntKind.wrap .u64 (IntKind.wrap .i64 (i47 + i48 : Int))) (2 : Int))) i49)))))))))))) else none))))) else none) else (bif (decide (i47 < i42)) then (J_slices_symMergeCmpFunc_api_Val_7 l40 i41 i42 i43 p44 i45 i47 (IntKind.wrap .i64 (i46 - i47 : Int)) (decide (i42 < (IntKind.wrap .i64 (i46 - i47 : Int))))) else (J_slices_symMergeCmpFunc_api_Val_7 l40 i41 i42 i43 p44 i45 i47 (IntKind.wrap .i64 (i46 - i47 : Int)) false))) := (T212.loop [1, 1, 1, 1, 1, 1, 1, 0, 0] 0 _ rfl).trans (by kernel_rfl)
theorem J_slices_symMergeCmpFunc_api_Val_7_eq (l67 : List PV) (i68 : Int) (i69 : Int) (i70 : Int) (p71 : PV) (i72 : Int) (i73 : Int) (i74 : Int) (b75 : Bool) : J_slices_symMergeCmpFunc_api_Val_7 l67 i68 i69 i70 p71 i72 i73 i74 b75 =
  (bif b75 then (((wc W n_slices_rotateCmpFunc_api_Val [(PV.slice 0 l67), (PV.int .i64 i73), (PV.int .i64 i69), (PV.int .i64 i74), p71])).bind (fun v76 => (J_slices_symMergeCmpFunc_api_Val_8 l67 i68 i70 p71 i72 i73 i74))) else (J_slices_symMergeCmpFunc_api_Val_8 l67 i68 i70 p71 i72 i73 i74)) := (T212.join [1, 1, 1, 1, 1, 1, 1, 1, 1, 0, 1] _).trans (by kernel_rfl)
theorem J_slices_symMergeCmpFunc_api_Val_8_eq (l77 : List PV) (i78 : Int) (i79 : Int) (p80 : PV) (i81 : Int) (i82 : Int) (i83 : Int) : J_slices_symMergeCmpFunc_api_Val_8 l77 i78 i79 p80 i81 i82 i83 =
  (bif (decide (i78 < i82)) then (J_slices_symMergeCmpFunc_api_Val_9 l77 i78 i79 p80 i81 i82 i83 (decide (i82 < i81))) else (J_slices_symMergeCmpFunc_api_Val_9 l77 i78 i79 p80 i81 i82 i83 false)) := (T212.join [1, 1, 1, 1, 1, 1, 1, 1, 1, 1] _).trans (by kernel_rfl)
theorem J_slices_symMergeCmpFunc_api_Val_9_eq (l84 : List PV) (i85 : Int) (i86 : Int) (p87 : PV) (i88 : Int) (i89 : Int) (i90 : Int) (b91 : Bool) : J_slices_symMergeCmpFunc_api_Val_9 l84 i85 i86 p87 i88 i89 i90 b91 =
  (bif b91 then (((wc W n_slices_symMergeCmpFunc_api_Val [(PV.slice 0 l84), (PV.int .i64 i85), (PV.int .i64 i89), (PV.int .i64 i88), p87])).bind (fun v92 => (J_slices_symMergeCmpFunc_api_Val_10 l84 i86 p87 i88 i90))) else (J_slices_symMergeCmpFunc_api_Val_10 l84 i86 p87 i88 i90)) := (T212.join [1, 1, 1, 1, 1, 1, 1, 1, 1, 1, 0, 1] _).trans (by kernel_rfl)
theorem J_slices_symMergeCmpFunc_api_Val_10_eq (l93 : List PV) (i94 : Int) (p95 : PV) (i96 : Int) (i97 : Int) : J_slices_symMergeCmpFunc_api_Val_10 l93 i94 p95 i96 i97 =
  (bif (decide (i96 < i97)) then (J_slices_symMergeCmpFunc_api_Val_11 l93 i94 p95 i96 i97 (decide (i97 < i94))) else (J_slices_symMergeCmpFunc_api_Val_11 l93 i94 p95 i96 i97 false)) := (T212.join [1, 1, 1, 1, 1, 1, 1, 1, 1, 1, 1] _).trans (by kernel_rfl)
theorem J_slices_symMergeCmpFunc_api_Val_11_eq (l98 : List PV) (i99 : Int) (p100 : PV) (i101 : Int) (i102 : Int) (b103 : Bool) : J_slices_symMergeCmpFunc_api_Val_11 l98 i99 p100 i101 i102 b103 =
  (bif b103 then (((wc W n_slices_symMergeCmpFunc_api_Val [(PV.slice 0 l98), (PV.int .i64 i101), (PV.int .i64 i102), (PV.int .i64 i99), p100])).bind (fun v104 => (some (PV.tup [])))) else (some (PV.tup []))) := (T212.join [1, 1, 1, 1, 1, 1, 1, 1, 1, 1, 1, 1] _).trans (by kernel_rfl)
theorem e_slices_symMergeCmpFunc_api_Val (a0 : List PV) (a1 : Int) (a2 : Int) (a3 : Int) (a4 : PV) : wc W n_slices_symMergeCmpFunc_api_Val [(PV.slice 0 a0), (PV.int .i64 a1), (PV.int .i64 a2), (PV.int .i64 a3), a4] =
  (bif ((IntKind.wrap .i64 (a2 - a1 : Int)) == (1 : Int)) then (L_slices_symMergeCmpFunc_api_Val_1 a0 a1 a4 a2 a3) else (bif ((IntKind.wrap .i64 (a3 - a2 : Int)) == (1 : Int)) then (L_slices_symMergeCmpFunc_api_Val_2 a0 a2 a4 a1 a2) else (bif (decide (GT.gt a2 (IntKind.wrap .i64 (Int.fdiv (IntKind.wrap .u64 (IntKind.wrap .i64 (a1 + a3 : Int))) (2 : Int))))) then (J_slices_symMergeCmpFunc_api_Val_3 a0 a1 a2 a3 a4 (IntKind.wrap .i64 (Int.fdiv (IntKind.wrap .u64 (IntKind.wrap .i64 (a1 + a3 : Int))) (2 : Int))) (IntKind.wrap .i64 ((IntKind.wrap .i64 (Int.fdiv (IntKind.wrap .u64 (IntKind.wrap .i64 (a1 + a3 : Int))) (2 : Int))) + a2 : Int)) (IntKind.wrap .i64 ((IntKind.wrap .i64 ((IntKind.wrap .i64 (Int.fdiv (IntKind.wrap .u64 (IntKind.wrap .i64 (a1 + a3 : Int))) (2 : Int))) + a2 : Int)) - a3 : Int)) (IntKind.wrap .i64 (Int.fdiv (IntKind.wrap .u64 (IntKind.wrap .i64 (a1 + a3 : Int))) (2 : Int)))) else (J_slices_symMergeCmpFunc_api_Val_3 a0 a1 a2 a3 a4 (IntKind.wrap .i64 (Int.fdiv (IntKind.wrap .u64 (IntKind.wrap .i64 (a1 + a3 : Int))) (2 : Int))) (IntKind.wrap .i64 ((IntKind.wrap .i64 (Int.fdiv (IntKind.wrap .u64 (IntKind.wrap .i64 (a1 + a3 : Int))) (2 : Int))) + a2 : Int)) a1 a2)))) := go (by kernel_rfl) (by kernel_rfl) T212 (by kernel_rfl)
end Go.Cf

namespace Go.Cf
open Go Go.Ab
set_option linter.unusedVariables false
set_option maxRecDepth 100000
noncomputable def jF212o2 : Jn (AV × List Ob) := (Classical.choose (exT fi212 (finO cfg fi212 false 2))).1
noncomputable def lF212o2 : Ln (AV × List Ob) := (Classical.choose (exT fi212 (finO cfg fi212 false 2))).2
theorem T212o2 : Tied cfg W fi212 (finO cfg fi212 false 2) jF212o2 lF212o2 := Classical.choose_spec (exT fi212 (finO cfg fi212 false 2))
noncomputable def L_slices_symMergeCmpFunc_api_Val_o2_1 (i1 : Int) (i2 : Int) (i3 : Int) (l4 : List PV) (i5 : Int) : Option (AV × List Ob) := lF212o2 [0, 0, 1, 1, 0, 1, 0] 2 (St.mk [(0, (AV.fx 0 0)), (1, (AV.pv (PV.int .i64 i1))), (4, (AV.fnv n_bag_Sort_2 [] [(AV.own 1 0)])), (10, (AV.pv (PV.int .i64 i2))), (11, (AV.pv (PV.int .i64 i3)))] [(Ob.fix 0 0 l4), (Ob.var false 0 (AV.pv (PV.int .i64 i5)))])
noncomputable def L_slices_symMergeCmpFunc_api_Val_o2_2 (i6 : Int) (i7 : Int) (i8 : Int) (l9 : List PV) (i10 : Int) : Option (AV × List Ob) := lF212o2 [0, 0, 1, 1, 0, 1, 0, 1] 2 (St.mk [(0, (AV.fx 0 0)), (2, (AV.pv (PV.int .i64 i6))), (4, (AV.fnv n_bag_Sort_2 [] [(AV.own 1 0)])), (14, (AV.pv (PV.int .i64 i7))), (15, (AV.pv (PV.int .i64 i8)))] [(Ob.fix 0 0 l9), (Ob.var false 0 (AV.pv (PV.int .i64 i10)))])
noncomputable def J_slices_symMergeCmpFunc_api_Val_o2_3 (i11 : Int) (i12 : Int) (i13 : Int) (i14 : Int) (i15 : Int) (i16 : Int) (i17 : Int) (l18 : List PV) (i19 : Int) : Option (AV × List Ob) := jF212o2 [1, 1, 1, 1, 1, 1] (St.mk [(0, (AV.fx 0 0)), (1, (AV.pv (PV.int .i64 i11))), (2, (AV.pv (PV.int .i64 i12))), (3, (AV.pv (PV.int .i64 i13))), (4, (AV.fnv n_bag_Sort_2 [] [(AV.own 1 0)])), (18, (AV.pv (PV.int .i64 i14))), (19, (AV.pv (PV.int .i64 i15))), (20, (AV.pv (PV.int .i64 i16))), (21, (AV.pv (PV.int .i64 i17)))] [(Ob.fix 0 0 l18), (Ob.var false 0 (AV.pv (PV.int .i64 i19)))])
noncomputable def L_slices_symMergeCmpFunc_api_Val_o2_4 (i31 : Int) (i32 : Int) (l33 : List PV) (i34 : Int) : Option (AV × List Ob) := lF212o2 [0, 1, 0, 1, 1, 1, 0, 1, 0] 2 (St.mk [(0, (AV.fx 0 0)), (10, (AV.pv (PV.int .i64 i31))), (13, (AV.pv (PV.int .i64 i32)))] [(Ob.fix 0 0 l33), (Ob.var false 0 (AV.pv (PV.int .i64 i34)))])
noncomputable def L_slices_symMergeCmpFunc_api_Val_o2_5 (i46 : Int) (i47 : Int) (l48 : List PV) (i49 : Int) : Option (AV × List Ob) := lF212o2 [0, 1, 0, 1, 1, 1, 0, 1, 0, 1] 2 (St.mk [(0, (AV.fx 0 0)), (14, (AV.pv (PV.int .i64 i46))), (17, (AV.pv (PV.int .i64 i47)))] [(Ob.fix 0 0 l48), (Ob.var false 0 (AV.pv (PV.int .i64 i49)))])
noncomputable def L_slices_symMergeCmpFunc_api_Val_o2_6 (i50 : Int) (i51 : Int) (i52 : Int) (i53 : Int) (i54 : Int) (i55 : Int) (i56 : Int) (i57 : Int) (l58 : List PV) (i59 : Int) : Option (AV × List Ob) := lF212o2 [0, 0, 1, 1, 1, 1, 1, 1, 1] 2 (St.mk [(0, (AV.fx 0 0)), (1, (AV.pv (PV.int .i64 i50))), (2, (AV.pv (PV.int .i64 i51))), (3, (AV.pv (PV.int .i64 i52))), (4, (AV.fnv n_bag_Sort_2 [] [(AV.own 1 0)])), (18, (AV.pv (PV.int .i64 i53))), (19, (AV.pv (PV.int .i64 i54))), (20, (AV.pv (PV.int .i64 i55))), (21, (AV.pv (PV.int .i64 i56))), (22, (AV.pv (PV.int .i64 i57)))] [(Ob.fix 0 0 l58), (Ob.var false 0 (AV.pv (PV.int .i64 i59)))])
noncomputable def J_slices_symMergeCmpFunc_api_Val_o2_7 (i83 : Int) (i84 : Int) (i85 : Int) (i86 : Int) (i87 : Int) (i88 : Int) (b89 : Bool) (l90 : List PV) (i91 : Int) : Option (AV × List Ob) := jF212o2 [1, 0, 1, 1, 1, 1, 1, 1, 1, 1, 1] (St.mk [(0, (AV.fx 0 0)), (1, (AV.pv (PV.int .i64 i83))), (2, (AV.pv (PV.int .i64 i84))), (3, (AV.pv (PV.int .i64 i85))), (4, (AV.fnv n_bag_Sort_2 [] [(AV.own 1 0)])), (18, (AV.pv (PV.int .i64 i86))), (20, (AV.pv (PV.int .i64 i87))), (24, (AV.pv (PV.int .i64 i88))), (185, (AV.pv (PV.bool b89)))] [(Ob.fix 0 0 l90), (Ob.var false 0 (AV.pv (PV.int .i64 i91)))])
noncomputable def J_slices_symMergeCmpFunc_api_Val_o2_8 (i101 : Int) (i102 : Int) (i103 : Int) (i104 : Int) (i105 : Int) (l106 : List PV) (i107 : Int) : Option (AV × List Ob) := jF212o2 [1, 1, 1, 1, 1, 1, 1, 1, 1, 1] (St.mk [(0, (AV.fx 0 0)), (1, (AV.pv (PV.int .i64 i101))), (3, (AV.pv (PV.int .i64 i102))), (4, (AV.fnv n_bag_Sort_2 [] [(AV.own 1 0)])), (18, (AV.pv (PV.int .i64 i103))), (20, (AV.pv (PV.int .i64 i104))), (24, (AV.pv (PV.int .i64 i105)))] [(Ob.fix 0 0 l106), (Ob.var false 0 (AV.pv (PV.int .i64 i107)))])
noncomputable def J_slices_symMergeCmpFunc_api_Val_o2_9 (i108 : Int) (i109 : Int) (i110 : Int) (i111 : Int) (i112 : Int) (b113 : Bool) (l114 : List PV) (i115 : Int) : Option (AV × List Ob) := jF212o2 [1, 0, 1, 1, 1, 1, 1, 1, 1, 1, 1, 1] (St.mk [(0, (AV.fx 0 0)), (1, (AV.pv (PV.int .i64 i108))), (3, (AV.pv (PV.int .i64 i109))), (4, (AV.fnv n_bag_Sort_2 [] [(AV.own 1 0)])), (18, (AV.pv (PV.int .i64 i110))), (20, (AV.pv (PV.int .i64 i111))), (24, (AV.pv (PV.int .i64 i112))), (199, (AV.pv (PV.bool b113)))] [(Ob.fix 0 0 l114), (Ob.var false 0 (AV.pv (PV.int .i64 i115)))])
noncomputable def J_slices_symMergeCmpFunc_api_Val_o2_10 (i125 : Int) (i126 : Int) (i127 : Int) (l128 : List PV) (i129 : Int) : Option (AV × List Ob) := jF212o2 [1, 1, 1, 1, 1, 1, 1, 1, 1, 1, 1] (St.mk [(0, (AV.fx 0 0)), (3, (AV.pv (PV.int .i64 i125))), (4, (AV.fnv n_bag_Sort_2 [] [(AV.own 1 0)])), (18, (AV.pv (PV.int .i64 i126))), (24, (AV.pv (PV.int .i64 i127)))] [(Ob.fix 0 0 l128), (Ob.var false 0 (AV.pv (PV.int .i64 i129)))])
noncomputable def J_slices_symMergeCmpFunc_api_Val_o2_11 (i130 : Int) (i131 : Int) (i132 : Int) (b133 : Bool) (l134 : List PV) (i135 : Int) : Option (AV × List Ob) := jF212o2 [1, 1, 1, 1, 1, 1, 1, 1, 1, 1, 1, 1] (St.mk [(0, (AV.fx 0 0)), (3, (AV.pv (PV.int .i64 i130))), (4, (AV.fnv n_bag_Sort_2 [] [(AV.own 1 0)])), (18, (AV.pv (PV.int .i64 i131))), (24, (AV.pv (PV.int .i64 i132))), (213, (AV.pv (PV.bool b133)))] [(Ob.fix 0 0 l134), (Ob.var false 0 (AV.pv (PV.int .i64 i135)))])
theorem L_slices_symMergeCmpFunc_api_Val_o2_1_eq (i1 : Int) (i2 : Int) (i3 : Int) (l4 : List PV) (i5 : Int) : L_slices_symMergeCmpFunc_api_Val_o2_1 i1 i2 i3 l4 i5 =
  (bif (decide (i2 < i3)) then (bif ((true && (decide ((0 : Int) ≤ (IntKind.wrap .i64 (Int.fdiv (IntKind.wrap .u64 (IntKind.wrap .i64 (i2 + i3 : Int))) (2 : Int)))))) && (decide ((IntKind.wrap .i64 (Int.fdiv (IntKind.wrap .u64 (IntKind.wrap .i64 (i2 + i3 : Int))) (2 : Int))) < (((List.length l4) : Nat) : Int)))) then (((l4)[(Int.toNat (IntKind.wrap .i64 (Int.fdiv (IntKind.wrap .u64 (IntKind.wrap .i64 (i2 + i3 : Int))) (2 : Int))))]?).bind (fun v20 => (c_s3 v20 (fun v21 => (bif ((true && (decide ((0 : Int) ≤ i1))) && (decide (i1 < (((List.length l4) : Nat) : Int)))) then (((l4)[(Int.toNat i1)]?).bind (fun v22 => (c_s3 v22 (fun v23 => (((W n_bag_Sort_2 false [(AV.pv (PV.slice 3 v21)), (AV.pv (PV.slice 3 v23)), (AV.own 0 0)] [(Ob.var false 0 (AV.pv (PV.int .i64 i5)))])).bind (fun v27 => (k_5b106d v27 (fun v28 v29 => (c_i64 v28 (fun v30 => (bif (decide (v30 < (0 : Int))) then (L_slices_symMergeCmpFunc_api_Val_o2_1 i1 (IntKind.wrap .i64 ((IntKind.wrap .i64 (Int.fdiv (IntKind.wrap .u64 (IntKind.wrap .i64 (i2 + i3 : Int))) (2 : Int))) + (1 : Int) : Int)) i3 l4 v29) else (L_slices_symMergeCmpFunc_api_Val_o2_1 i1 i2 (IntKind.wrap .i64 (Int.fdiv (IntKind.wrap .u64 (IntKind.wrap .i64 (i2 + i3 : Int))) (2 : Int))) l4 v29)))))))))))) else none))))) else none) else (L_slices_symMergeCmpFunc_api_Val_o2_4 i2 i1 l4 i5)) := (T212o2.loop [0, 1, 0, 1, 1, 0, 0] 2 _ rfl).trans (by kernel_rfl)
theorem L_slices_symMergeCmpFunc_api_Val_o2_2_eq (i6 : Int) (i7 : Int) (i8 : Int) (l9 : List PV) (i10 : Int) : L_slices_symMergeCmpFunc_api_Val_o2_2 i6 i7 i8 l9 i10 =
  (bif (decide (i7 < i8)) then (bif ((true && (decide ((0 : Int) ≤ i6))) && (decide (i6 < (((List.length l9) : Nat) : Int)))) then (((l9)[(Int.toNat i6)]?).bind (fun v35 => (c_s3 v35 (fun v36 => (bif ((true && (decide ((0 : Int) ≤ (IntKind.wrap .i64 (Int.fdiv (IntKind.wrap .u64 (IntKind.wrap .i64 (i7 + i8 : Int))) (2 : Int)))))) && (decide ((IntKind.wrap .i64 (Int.fdiv (IntKind.wrap .u64 (IntKind.wrap .i64 (i7 + i8 : Int))) (2 : Int))) < (((List.length l9) : Nat) : Int)))) then (((l9)[(Int.toNat (IntKind.wrap .i64 (Int.fdiv (IntKind.wrap .u64 (IntKind.wrap .i64 (i7 + i8 : Int))) (2 : Int))))]?).bind (fun v37 => (c_s3 v37 (fun v38 => (((W n_bag_Sort_2 false [(AV.pv (PV.slice 3 v36)), (AV.pv (PV.slice 3 v38)), (AV.own 0 0)] [(Ob.var false 0 (AV.pv (PV.int .i64 i10)))])).bind (fun v42 => (k_5b106d v42 (fun v43 v44 => (c_i64 v43 (fun v45 => (bif (!(decide (v45 < (0 : Int)))) then (L_slices_symMergeCmpFunc_api_Val_o2_2 i6 (IntKind.wrap .i64 ((IntKind.wrap .i64 (Int.fdiv (IntKind.wrap .u64 (IntKind.wrap .i64 (i7 + i8 : Int))) (2 : Int))) + (1 : Int) : Int)) i8 l9 v44) else (L_slices_symMergeCmpFunc_api_Val_o2_2 i6 i7 (IntKind.wrap .i64 (Int.fdiv (IntKind.wrap .u64 (IntKind.wrap .i64 (i7 + i8 : Int))) (2 : Int))) l9 v44)))))))))))) else none))))) else none) else (L_slices_symMergeCmpFunc_api_Val_o2_5 i7 i6 l9 i10)) := (T212o2.loop [1, 0, 1, 0, 1, 1, 0, 0] 2 _ rfl).trans (by kernel_rfl)
theorem J_slices_symMergeCmpFunc_api_Val_o2_3_eq (i11 : Int) (i12 : Int) (i13 : Int) (i14 : Int) (i15 : Int) (i16 : Int) (i17 : Int) (l18 : List PV) (i19 : Int) : J_slices_symMergeCmpFunc_api_Val_o2_3 i11 i12 i13 i14 i15 i16 i17 l18 i19 =
  (L_slices_symMergeCmpFunc_api_Val_o2_6 i11 i12 i13 i14 i15 i16 i17 (IntKind.wrap .i64 (i15 - (1 : Int) : Int)) l18 i19) := (T212o2.join [1, 1, 1, 1, 1, 1] _).trans (by kernel_rfl)
theorem L_slices_symMergeCmpFunc_api_Val_o2_4_eq (i31 : Int) (i32 : Int) (l33 : List PV) (i34 : Int) : L_slices_symMergeCmpFunc_api_Val_o2_4 i31 i32 l33 i34 =
  (bif (decide (i32 < (IntKind.wrap .i64 (i31 - (1 : Int) : Int)))) then (bif ((true && (decide ((0 : Int) ≤ (IntKind.wrap .i64 (i32 + (1 : Int) : Int))))) && (decide ((IntKind.wrap .i64 (i32 + (1 : Int) : Int)) < (((List.length l33) : Nat) : Int)))) then (((l33)[(Int.toNat (IntKind.wrap .i64 (i32 + (1 : Int) : Int)))]?).bind (fun v60 => (c_s3 v60 (fun v61 => (bif ((true && (decide ((0 : Int) ≤ i32))) && (decide (i32 < (((List.length l33) : Nat) : Int)))) then (((l33)[(Int.toNat i32)]?).bind (fun v62 => (c_s3 v62 (fun v63 => (bif ((true && (decide ((0 : Int) ≤ i32))) && (decide (i32 < (((List.length l33) : Nat) : Int)))) then (((l33)[(Int.toNat i32)]?).bind (fun v64 => (bif ((true && (decide ((0 : Int) ≤ (IntKind.wrap .i64 (i32 + (1 : Int) : Int))))) && (decide ((IntKind.wrap .i64 (i32 + (1 : Int) : Int)) < (((List.length (List.set l33 (Int.toNat i32) (PV.slice 3 v61))) : Nat) : Int)))) then ((((List.set l33 (Int.toNat i32) (PV.slice 3 v61)))[(Int.toNat (IntKind.wrap .i64 (i32 + (1 : Int) : Int)))]?).bind (fun v65 => (L_slices_symMergeCmpFunc_api_Val_o2_4 i31 (IntKind.wrap .i64 (i32 + (1 : Int) : Int)) (List.set (List.set l33 (Int.toNat i32) (PV.slice 3 v61)) (Int.toNat (IntKind.wrap .i64 (i32 + (1 : Int) : Int))) (PV.slice 3 v63)) i34))) else none))) else none))))) else none))))) else none) else (some ((AV.pv (PV.tup [])), [(Ob.fix 0 0 l33), (Ob.var false 0 (AV.pv (PV.int .i64 i34)))]))) := (T212o2.loop [0, 1, 0, 1, 1, 1, 0, 1, 0] 2 _ rfl).trans (by kernel_rfl)
theorem L_slices_symMergeCmpFunc_api_Val_o2_5_eq (i46 : Int) (i47 : Int) (l48 : List PV) (i49 : Int) : L_slices_symMergeCmpFunc_api_Val_o2_5 i46 i47 l48 i49 =
  (bif (decide (GT.gt i47 i46)) then (bif ((true && (decide ((0 : Int) ≤ (IntKind.wrap .i64 (i47 - (1 : Int) : Int))))) && (decide ((IntKind.wrap .i64 (i47 - (1 : Int) : Int)) < (((List.length l48) : Nat) : Int)))) then (((l48)[(Int.toNat (IntKind.wrap .i64 (i47 - (1 : Int) : Int)))]?).bind (fun v66 => (c_s3 v66 (fun v67 => (bif ((true && (decide ((0 : Int) ≤ i47))) && (decide (i47 < (((List.length l48) : Nat) : Int)))) then (((l48)[(Int.toNat i47)]?).bind (fun v68 => (c_s3 v68 (fun v69 => (bif ((true && (decide ((0 : Int) ≤ i47))) && (decide (i47 < (((List.length l48) : Nat) : Int)))) then (((l48)[(Int.toNat i47)]?).bind (fun v70 => (bif ((true && (decide ((0 : Int) ≤ (IntKind.wrap .i64 (i47 - (1 : Int) : Int))))) && (decide ((IntKind.wrap .i64 (i47 - (1 : Int) : Int)) < (((List.length (List.set l48 (Int.toNat i47) (PV.slice 3 v67))) : Nat) : Int)))) then ((((List.set l48 (Int.toNat i47) (PV.slice 3 v67)))[(Int.toNat (IntKind.wrap .i64 (i47 - (1 : Int) : Int)))]?).bind (fun v71 => (L_slices_symMergeCmpFunc_api_Val_o2_5 i46 (IntKind.wrap .i64 (i47 - (1 : Int) : Int)) (List.set (List.set l48 (Int.toNat i47) (PV.slice 3 v67)) (Int.toNat (IntKind.wrap .i64 (i47 - (1 : Int) : Int))) (PV.slice 3 v69)) i49))) else none))) else none))))) else none))))) else none) else (some ((AV.pv (PV.tup [])), [(Ob.fix 0 0 l48), (Ob.var false 0 (AV.pv (PV.int .i64 i49)))]))) := (T212o2.loop [1, 0, 1, 0, 1, 1, 1, 0, 1, 0] 2 _ rfl).trans (by kernel_rfl)
theorem L_slices_symMergeCmpFunc_api_Val_o2_6_eq (i50 : Int) (i51 : Int) (i52 : Int) (i53 : Int) (i54 : Int) (i55 : Int) (i56 : Int) (i57 : Int) (l58 : List PV) (i59 : Int) : L_slices_symMergeCmpFunc_api_Val_o2_6 i50 i51 i52 i53 i54 i55 i56 i57 l58 i59 =
  (bif (decide (i55 < i56)) then (bif ((true && (decide ((0 : Int) ≤ (IntKind.wrap .i64 (i57 - (IntKind.wrap .i64 (Int.fdiv (IntKind.wrap .u64 (IntKind.wrap .i64 (i55 + i56 : Int))) (2 : Int))) : Int))))) && (decide ((IntKind.wrap .i64 (i57 - (IntKind.wrap .i64 (Int.fdiv (IntKind.wrap .u64 (IntKind.wrap .i64 (i55 + i56 : Int))) (2 : Int))) : Int)) < (((List.length l58) : Nat) : Int)))) then (((l58)[(Int.toNat (IntKind.wrap .i64 (i57 - (IntKind.wrap .i64 (Int.fdiv (IntKind.wrap .u64 (IntKind.wrap .i64 (i55 + i56 : Int))) (2 : Int))) : Int)))]?).bind (fun v72 => (c_s3 v72 (fun v73 => (bif ((true && (decide ((0 : Int) ≤ (IntKind.wrap .i64 (Int.fdiv (IntKind.wrap .u64 (IntKind.wrap .i64 (i55 + i56 : Int))) (2 : Int)))))) && (decide ((IntKind.wrap .i64 (Int.fdiv (IntKind.wrap .u64 (IntKind.wrap .i64 (i55 + i56 : Int))) (2 : Int))) < (((List.length l58) : Nat) : Int)))) then (((l58)[(Int.toNat (IntKind.wrap .i64 (Int.fdiv (IntKind.wrap .u64 (IntKind.wrap .i64 (i55 + i56 : Int))) (2 : Int))))]?).bind (fun v74 => (c_s3 v74 (fun v75 => (((W n_bag_Sort_2 false [(AV.pv (PV.slice 3 v73)), (AV.pv (PV.slice 3 v75)), (AV.own 0 0)] [(Ob.var false 0 (AV.pv (PV.int .i64 i59)))])).bind (fun v79 => (k_5b106d v79 (fun v80 v81 => (c_i64 v80 (fun v82 => (bif (!(decide (v82 < (0 : Int)))) then (L_slices_symMergeCmpFunc_api_Val_o2_6 i50 i51 i52 i53 i54 (IntKind.wrap .i64 ((IntKind.wrap .i64 (Int.fdiv (IntKind.wrap .u64 (IntKind.wrap .i64 (i55 + i56 : Int))) (2 : Int))) + (1 : Int) : Int)) i56 i57 l58 v81) else (L_slices_symMergeCmpFunc_api_Val_o2_6 i50 i51 i52 i53 i54 i55 (IntKind.wrap .i64 (Int.fdiv (IntKind.wrap .u64 (IntKind.wrap .i64 (i55 + i56 : Int))) (2 : Int))) i57 l58 v81)))))))))))) else none))))) else none) else (bif (decide (i55 < i51)) then (J_slices_symMergeCmpFunc_api_Val_o2_7 i50 i51 i52 i53 i55 (IntKind.wrap .i64 (i54 - i55 : Int)) (decide (i51 < (IntKind.wrap .i64 (i54 - i55 : Int)))) l58 i59) else (J_slices_symMergeCmpFunc_api_Val_o2_7 i50 i51 i52 i53 i55 (IntKind.wrap .i64 (i54 - i55 : Int)) false l58 i59))) := (T212o2.loop [1, 1, 1, 1, 1, 1, 1, 0, 0] 2 _ rfl).trans (by kernel_rfl)
theorem J_slices_symMergeCmpFunc_api_Val_o2_7_eq (i83 : Int) (i84 : Int) (i85 : Int) (i86 : Int) (i87 : Int) (i88 : Int) (b89 : Bool) (l90 : List PV) (i91 : Int) : J_slices_symMergeCmpFunc_api_Val_o2_7 i83 i84 i85 i86 i87 i88 b89 l90 i91 =
  (bif b89 then (((W n_slices_rotateCmpFunc_api_Val false [(AV.fx 0 0), (AV.pv (PV.int .i64 i87)), (AV.pv (PV.int .i64 i84)), (AV.pv (PV.int .i64 i88)), (AV.fnv n_bag_Sort_2 [] [(AV.own 1 0)])] [(Ob.fix 0 0 l90), (Ob.var false 0 (AV.pv (PV.int .i64 i91)))])).bind (fun v97 => (k_c4d914 v97 (fun v98 v99 v100 => (J_slices_symMergeCmpFunc_api_Val_o2_8 i83 i85 i86 i87 i88 v99 v100))))) else (J_slices_symMergeCmpFunc_api_Val_o2_8 i83 i85 i86 i87 i88 l90 i91)) := (T212o2.join [1, 1, 1, 1, 1, 1, 1, 1, 1, 0, 1] _).trans (by kernel_rfl)
theorem J_slices_symMergeCmpFunc_api_Val_o2_8_eq (i101 : Int) (i102 : Int) (i103 : Int) (i104 : Int) (i105 : Int) (l106 : List PV) (i107 : Int) : J_slices_symMergeCmpFunc_api_Val_o2_8 i101 i102 i103 i104 i105 l106 i107 =
  (bif (decide (i101 < i104)) then (J_slices_symMergeCmpFunc_api_Val_o2_9 i101 i102 i103 i104 i105 (decide (i104 < i103)) l106 i107) else (J_slices_symMergeCmpFunc_api_Val_o2_9 i101 i102 i103 i104 i105 false l106 i107)) := (T212o2.join [1, 1, 1, 1, 1, 1, 1, 1, 1, 1] _).trans (by kernel_rfl)
theorem J_slices_symMergeCmpFunc_api_Val_o2_9_eq (i108 : Int) (i109 : Int) (i110 : Int) (i111 : Int) (i112 : Int) (b113 : Bool) (l114 : List PV) (i115 : Int) : J_slices_symMergeCmpFunc_api_Val_o2_9 i108 i109 i110 i111 i112 b113 l114 i115 =
  (bif b113 then (((W n_slices_symMergeCmpFunc_api_Val false [(AV.fx 0 0), (AV.pv (PV.int .i64 i108)), (AV.pv (PV.int .i64 i111)), (AV.pv (PV.int .i64 i110)), (AV.fnv n_bag_Sort_2 [] [(AV.own 1 0)])] [(Ob.fix 0 0 l114), (Ob.var false 0 (AV.pv (PV.int .i64 i115)))])).bind (fun v121 => (k_c4d914 v121 (fun v122 v123 v124 => (J_slices_symMergeCmpFunc_api_Val_o2_10 i109 i110 i112 v123 v124))))) else (J_slices_symMergeCmpFunc_api_Val_o2_10 i109 i110 i112 l114 i115)) := (T212o2.join [1, 1, 1, 1, 1, 1, 1, 1, 1, 1, 0, 1] _).trans (by kernel_rfl)
theorem J_slices_symMergeCmpFunc_api_Val_o2_10_eq (i125 : Int) (i126 : Int) (i127 : Int) (l128 : List PV) (i129 : Int) : J_slices_symMergeCmpFunc_api_Val_o2_10 i125 i126 i127 l128 i129 =
  (bif (decide (i126 < i127)) then (J_slices_symMergeCmpFunc_api_Val_o2_11 i125 i126 i127 (decide (i127 < i125)) l128 i129) else (J_slices_symMergeCmpFunc_api_Val_o2_11 i125 i126 i127 false l128 i129)) := (T212o2.join [1, 1, 1, 1, 1, 1, 1, 1, 1, 1, 1] _).trans (by kernel_rfl)
theorem J_slices_symMergeCmpFunc_api_Val_o2_11_eq (i130 : Int) (i131 : Int) (i132 : Int) (b133 : Bool) (l134 : List PV) (i135 : Int) : J_slices_symMergeCmpFunc_api_Val_o2_11 i130 i131 i132 b133 l134 i135 =
  (bif b133 then (((W n_slices_symMergeCmpFunc_api_Val false [(AV.fx 0 0), (AV.pv (PV.int .i64 i131)), (AV.pv (PV.int .i64 i132)), (AV.pv (PV.int .i64 i130)), (AV.fnv n_bag_Sort_2 [] [(AV.own 1 0)])] [(Ob.fix 0 0 l134), (Ob.var false 0 (AV.pv (PV.int .i64 i135)))])).bind (fun v141 => (k_c4d914 v141 (fun v142 v143 v144 => (some ((AV.pv (PV.tup [])), [(Ob.fix 0 0 v143), (Ob.var false 0 (AV.pv (PV.int .i64 v144)))])))))) else (some ((AV.pv (PV.tup [])), [(Ob.fix 0 0 l134), (Ob.var false 0 (AV.pv (PV.int .i64 i135)))]))) := (T212o2.join [1, 1, 1, 1, 1, 1, 1, 1, 1, 1, 1, 1] _).trans (by kernel_rfl)
theorem o_slices_symMergeCmpFunc_api_Val_o2_1 (i0 : Int) (i1 : Int) (i2 : Int) (l3 : List PV) (i4 : Int) : W n_slices_symMergeCmpFunc_api_Val false [(AV.fx 0 0), (AV.pv (PV.int .i64 i0)), (AV.pv (PV.int .i64 i1)), (AV.pv (PV.int .i64 i2)), (AV.fnv n_bag_Sort_2 [] [(AV.own 1 0)])] [(Ob.fix 0 0 l3), (Ob.var false 0 (AV.pv (PV.int .i64 i4)))] =
  (bif ((IntKind.wrap .i64 (i1 - i0 : Int)) == (1 : Int)) then (L_slices_symMergeCmpFunc_api_Val_o2_1 i0 i1 i2 l3 i4) else (bif ((IntKind.wrap .i64 (i2 - i1 : Int)) == (1 : Int)) then (L_slices_symMergeCmpFunc_api_Val_o2_2 i1 i0 i1 l3 i4) else (bif (decide (GT.gt i1 (IntKind.wrap .i64 (Int.fdiv (IntKind.wrap .u64 (IntKind.wrap .i64 (i0 + i2 : Int))) (2 : Int))))) then (J_slices_symMergeCmpFunc_api_Val_o2_3 i0 i1 i2 (IntKind.wrap .i64 (Int.fdiv (IntKind.wrap .u64 (IntKind.wrap .i64 (i0 + i2 : Int))) (2 : Int))) (IntKind.wrap .i64 ((IntKind.wrap .i64 (Int.fdiv (IntKind.wrap .u64 (IntKind.wrap .i64 (i0 + i2 : Int))) (2 : Int))) + i1 : Int)) (IntKind.wrap .i64 ((IntKind.wrap .i64 ((IntKind.wrap .i64 (Int.fdiv (IntKind.wrap .u64 (IntKind.wrap .i64 (i0 + i2 : Int))) (2 : Int))) + i1 : Int)) - i2 : Int)) (IntKind.wrap .i64 (Int.fdiv (IntKind.wrap .u64 (IntKind.wrap .i64 (i0 + i2 : Int))) (2 : Int))) l3 i4) else (J_slices_symMergeCmpFunc_api_Val_o2_3 i0 i1 i2 (IntKind.wrap .i64 (Int.fdiv (IntKind.wrap .u64 (IntKind.wrap .i64 (i0 + i2 : Int))) (2 : Int))) (IntKind.wrap .i64 ((IntKind.wrap .i64 (Int.fdiv (IntKind.wrap .u64 (IntKind.wrap .i64 (i0 + i2 : Int))) (2 : Int))) + i1 : Int)) i0 i1 l3 i4)))) := goO (by kernel_rfl) (by kernel_rfl) T212o2 rfl (by kernel_rfl)
noncomputable def jF215 : Jn PV := (Classical.choose (exT fi215 (fin cfg fi215))).1
noncomputable def lF215 : Ln PV := (Classical.choose (exT fi215 (fin cfg fi215))).2
theorem T215 : Tied cfg W fi215 (fin cfg fi215) jF215 lF215 := Classical.choose_spec (exT fi215 (fin cfg fi215))
theorem e_val_fine (a0_0 : Int) (a0_1 : Int) : wc W n_val_fine [(PV.agg [(PV.int .i64 a0_0), (PV.int .i64 a0_1)])] =
  (((wc W n_val_May [(PV.agg [(PV.int .i64 a0_0), (PV.int .i64 a0_1)])])).bind (fun v1 => (c_b v1 (fun v2 => (bif (!v2) then (((wc W n_val_bad [])).bind (fun v3 => (c_g_i64_i64 v3 (fun v4 v5 => (some (PV.agg [(PV.int .i64 v4), (PV.int .i64 v5)])))))) else (some (PV.agg [(PV.int .i64 a0_0), (PV.int .i64 a0_1)]))))))) := go (by kernel_rfl) (by kernel_rfl) T215 (by kernel_rfl)
noncomputable def jF221 : Jn PV := (Classical.choose (exT fi221 (fin cfg fi221))).1
noncomputable def lF221 : Ln PV := (Classical.choose (exT fi221 (fin cfg fi221))).2
theorem T221 : Tied cfg W fi221 (fin cfg fi221) jF221 lF221 := Classical.choose_spec (exT fi221 (fin cfg fi221))
theorem e_cmp_isNaN_int (a0 : Int) : wc W n_cmp_isNaN_int [(PV.int .i64 a0)] =
  (some (PV.bool (a0 != a0))) := go (by kernel_rfl) (by kernel_rfl) T221 (by kernel_rfl)
noncomputable def jF246 : Jn PV := (Classical.choose (exT fi246 (fin cfg fi246))).1
noncomputable def lF246 : Ln PV := (Classical.choose (exT fi246 (fin cfg fi246))).2
theorem T246 : Tied cfg W fi246 (fin cfg fi246) jF246 lF246 := Classical.choose_spec (exT fi246 (fin cfg fi246))
theorem e_val_kind_1 (a0_0 : Int) (a0_1 : Int) (c0 : Int) : wc W n_val_kind_1 [(PV.agg [(PV.int .i64 a0_0), (PV.int .i64 a0_1)]), (PV.imm 0 (PV.int .i64 c0) 0)] =
  (((wc W n_val_fine [(PV.agg [(PV.int .i64 a0_0), (PV.int .i64 a0_1)])])).bind (fun v1 => (c_g_i64_i64 v1 (fun v2 v3 => (some (PV.bool (v2 == c0))))))) := go (by kernel_rfl) (by kernel_rfl) T246 (by kernel_rfl)
noncomputable def jF249 : Jn PV := (Classical.choose (exT fi249 (fin cfg fi249))).1
noncomputable def lF249 : Ln PV := (Classical.choose (exT fi249 (fin cfg fi249))).2
theorem T249 : Tied cfg W fi249 (fin cfg fi249) jF249 lF249 := Classical.choose_spec (exT fi249 (fin cfg fi249))
noncomputable def L_slices_rotateCmpFunc_api_Val_1 (l1 : List PV) (i2 : Int) (p3 : PV) (i4 : Int) (i5 : Int) : Option PV := lF249 [0, 0, 1, 1] 0 (St.mk [(0, (AV.pv (PV.slice 0 l1))), (2, (AV.pv (PV.int .i64 i2))), (4, (AV.pv p3)), (10, (AV.pv (PV.int .i64 i4))), (11, (AV.pv (PV.int .i64 i5)))] [])
theorem L_slices_rotateCmpFunc_api_Val_1_eq (l1 : List PV) (i2 : Int) (p3 : PV) (i4 : Int) (i5 : Int) : L_slices_rotateCmpFunc_api_Val_1 l1 i2 p3 i4 i5 =
  (bif (i4 != i5) then (bif (decide (GT.gt i4 i5)) then (((wc W n_slices_swapRangeCmpFunc_api_Val [(PV.slice 0 l1), (PV.int .i64 (IntKind.wrap .i64 (i2 - i4 : Int))), (PV.int .i64 i2), (PV.int .i64 i5), p3])).bind (fun v6 => (L_slices_rotateCmpFunc_api_Val_1 l1 i2 p3 (IntKind.wrap .i64 (i4 - i5 : Int)) i5))) else (((wc W n_slices_swapRangeCmpFunc_api_Val [(PV.slice 0 l1), (PV.int .i64 (IntKind.wrap .i64 (i2 - i4 : Int))), (PV.int .i64 (IntKind.wrap .i64 ((IntKind.wrap .i64 (i2 + i5 : Int)) - i4 : Int))), (PV.int .i64 i4), p3])).bind (fun v7 => (L_slices_rotateCmpFunc_api_Val_1 l1 i2 p3 i4 (IntKind.wrap .i64 (i5 - i4 : Int)))))) else (((wc W n_slices_swapRangeCmpFunc_api_Val [(PV.slice 0 l1), (PV.int .i64 (IntKind.wrap .i64 (i2 - i4 : Int))), (PV.int .i64 i2), (PV.int .i64 i4), p3])).bind (fun v8 => (some (PV.tup []))))) := (T249.loop [1, 1, 0, 0] 0 _ rfl).trans (by kernel_rfl)
theorem e_slices_rotateCmpFunc_api_Val (a0 : List PV) (a1 : Int) (a2 : Int) (a3 : Int) (a4 : PV) : wc W n_slices_rotateCmpFunc_api_Val [(PV.slice 0 a0), (PV.int .i64 a1), (PV.int .i64 a2), (PV.int .i64 a3), a4] =
  (L_slices_rotateCmpFunc_api_Val_1 a0 a2 a4 (IntKind.wrap .i64 (a2 - a1 : Int)) (IntKind.wrap .i64 (a3 - a2 : Int))) := go (by kernel_rfl) (by kernel_rfl) T249 (by kernel_rfl)
noncomputable def jF249o2 : Jn (AV × List Ob) := (Classical.choose (exT fi249 (finO cfg fi249 false 2))).1
noncomputable def lF249o2 : Ln (AV × List Ob) := (Classical.choose (exT fi249 (finO cfg fi249 false 2))).2
theorem T249o2 : Tied cfg W fi249 (finO cfg fi249 false 2) jF249o2 lF249o2 := Classical.choose_spec (exT fi249 (finO cfg fi249 false 2))
noncomputable def L_slices_rotateCmpFunc_api_Val_o2_1 (i1 : Int) (i2 : Int) (i3 : Int) (l4 : List PV) (i5 : Int) : Option (AV × List Ob) := lF249o2 [0, 0, 1, 1] 2 (St.mk [(0, (AV.fx 0 0)), (2, (AV.pv (PV.int .i64 i1))), (4, (AV.fnv n_bag_Sort_2 [] [(AV.own 1 0)])), (10, (AV.pv (PV.int .i64 i2))), (11, (AV.pv (PV.int .i64 i3)))] [(Ob.fix 0 0 l4), (Ob.var false 0 (AV.pv (PV.int .i64 i5)))])
theorem L_slices_rotateCmpFunc_api_Val_o2_1_eq (i1 : Int) (i2 : Int) (i3 : Int) (l4 : List PV) (i5 : Int) : L_slices_rotateCmpFunc_api_Val_o2_1 i1 i2 i3 l4 i5 =
  (bif (i2 != i3) then (bif (decide (GT.gt i2 i3)) then (((W n_slices_swapRangeCmpFunc_api_Val false [(AV.fx 0 0), (AV.pv (PV.int .i64 (IntKind.wrap .i64 (i1 - i2 : Int)))), (AV.pv (PV.int .i64 i1)), (AV.pv (PV.int .i64 i3)), (AV.fnv n_bag_Sort_2 [] [(AV.own 1 0)])] [(Ob.fix 0 0 l4), (Ob.var false 0 (AV.pv (PV.int .i64 i5)))])).bind (fun v11 => (k_c4d914 v11 (fun v12 v13 v14 => (L_slices_rotateCmpFunc_api_Val_o2_1 i1 (IntKind.wrap .i64 (i2 - i3 : Int)) i3 v13 v14))))) else (((W n_slices_swapRangeCmpFunc_api_Val false [(AV.fx 0 0), (AV.pv (PV.int .i64 (IntKind.wrap .i64 (i1 - i2 : Int)))), (AV.pv (PV.int .i64 (IntKind.wrap .i64 ((IntKind.wrap .i64 (i1 + i3 : Int)) - i2 : Int)))), (AV.pv (PV.int .i64 i2)), (AV.fnv n_bag_Sort_2 [] [(AV.own 1 0)])] [(Ob.fix 0 0 l4), (Ob.var false 0 (AV.pv (PV.int .i64 i5)))])).bind (fun v20 => (k_c4d914 v20 (fun v21 v22 v23 => (L_slices_rotateCmpFunc_api_Val_o2_1 i1 i2 (IntKind.wrap .i64 (i3 - i2 : Int)) v22 v23)))))) else (((W n_slices_swapRangeCmpFunc_api_Val false [(AV.fx 0 0), (AV.pv (PV.int .i64 (IntKind.wrap .i64 (i1 - i2 : Int)))), (AV.pv (PV.int .i64 i1)), (AV.pv (PV.int .i64 i2)), (AV.fnv n_bag_Sort_2 [] [(AV.own 1 0)])] [(Ob.fix 0 0 l4), (Ob.var false 0 (AV.pv (PV.int .i64 i5)))])).bind (fun v29 => (k_c4d914 v29 (fun v30 v31 v32 => (some ((AV.pv (PV.tup [])), [(Ob.fix 0 0 v31), (Ob.var false 0 (AV.pv (PV.int .i64 v32)))]))))))) := (T249o2.loop [1, 1, 0, 0] 2 _ rfl).trans (by kernel_rfl)
theorem o_slices_rotateCmpFunc_api_Val_o2_1 (i0 : Int) (i1 : Int) (i2 : Int) (l3 : List PV) (i4 : Int) : W n_slices_rotateCmpFunc_api_Val false [(AV.fx 0 0), (AV.pv (PV.int .i64 i0)), (AV.pv (PV.int .i64 i1)), (AV.pv (PV.int .i64 i2)), (AV.fnv n_bag_Sort_2 [] [(AV.own 1 0)])] [(Ob.fix 0 0 l3), (Ob.var false 0 (AV.pv (PV.int .i64 i4)))] =
  (L_slices_rotateCmpFunc_api_Val_o2_1 i1 (IntKind.wrap .i64 (i1 - i0 : Int)) (IntKind.wrap .i64 (i2 - i1 : Int)) l3 i4) := goO (by kernel_rfl) (by kernel_rfl) T249o2 rfl (by kernel_rfl)
noncomputable def jF285 : Jn PV := (Classical.choose (exT fi285 (fin cfg fi285))).1
noncomputable def lF285 : Ln PV := (Classical.choose (exT fi285 (fin cfg fi285))).2
theorem T285 : Tied cfg W fi285 (fin cfg fi285) jF285 lF285 := Classical.choose_spec (exT fi285 (fin cfg fi285))
noncomputable def L_slices_swapRangeCmpFunc_api_Val_1 (l1 : List PV) (i2 : Int) (i3 : Int) (i4 : Int) (i5 : Int) : Option PV := lF285 [0, 1] 0 (St.mk [(0, (AV.pv (PV.slice 0 l1))), (1, (AV.pv (PV.int .i64 i2))), (2, (AV.pv (PV.int .i64 i3))), (3, (AV.pv (PV.int .i64 i4))), (10, (AV.pv (PV.int .i64 i5)))] [])
theorem L_slices_swapRangeCmpFunc_api_Val_1_eq (l1 : List PV) (i2 : Int) (i3 : Int) (i4 : Int) (i5 : Int) : L_slices_swapRangeCmpFunc_api_Val_1 l1 i2 i3 i4 i5 =
  (bif (decide (i5 < i4)) then (bif (decide ((0 : Int) ≤ (IntKind.wrap .i64 (i3 + i5 : Int)))) then (((l1)[(Int.toNat (IntKind.wrap .i64 (i3 + i5 : Int)))]?).bind (fun v6 => (c_s3 v6 (fun v7 => (bif (decide ((0 : Int) ≤ (IntKind.wrap .i64 (i2 + i5 : Int)))) then (((l1)[(Int.toNat (IntKind.wrap .i64 (i2 + i5 : Int)))]?).bind (fun v8 => (c_s3 v8 (fun v9 => (bif (decide ((0 : Int) ≤ (IntKind.wrap .i64 (i2 + i5 : Int)))) then (((l1)[(Int.toNat (IntKind.wrap .i64 (i2 + i5 : Int)))]?).bind (fun v10 => none)) else none))))) else none))))) else none) else (some (PV.tup []))) := (T285.loop [1, 0] 0 _ rfl).trans (by kernel_rfl)
theorem e_slices_swapRangeCmpFunc_api_Val (a0 : List PV) (a1 : Int) (a2 : Int) (a3 : Int) (a4 : PV) : wc W n_slices_swapRangeCmpFunc_api_Val [(PV.slice 0 a0), (PV.int .i64 a1), (PV.int .i64 a2), (PV.int .i64 a3), a4] =
  (L_slices_swapRangeCmpFunc_api_Val_1 a0 a1 a2 a3 (0 : Int)) := go (by kernel_rfl) (by kernel_rfl) T285 (by kernel_rfl)
noncomputable def jF285o2 : Jn (AV × List Ob) := (Classical.choose (exT fi285 (finO cfg fi285 false 2))).1
noncomputable def lF285o2 : Ln (AV × List Ob) := (Classical.choose (exT fi285 (finO cfg fi285 false 2))).2
theorem T285o2 : Tied cfg W fi285 (finO cfg fi285 false 2) jF285o2 lF285o2 := Classical.choose_spec (exT fi285 (finO cfg fi285 false 2))
noncomputable def L_slices_swapRangeCmpFunc_api_Val_o2_1 (i1 : Int) (i2 : Int) (i3 : Int) (i4 : Int) (l5 : List PV) (i6 : Int) : Option (AV × List Ob) := lF285o2 [0, 1] 2 (St.mk [(0, (AV.fx 0 0)), (1, (AV.pv (PV.int .i64 i1))), (2, (AV.pv (PV.int .i64 i2))), (3, (AV.pv (PV.int .i64 i3))), (10, (AV.pv (PV.int .i64 i4)))] [(Ob.fix 0 0 l5), (Ob.var false 0 (AV.pv (PV.int .i64 i6)))])
theorem L_slices_swapRangeCmpFunc_api_Val_o2_1_eq (i1 : Int) (i2 : Int) (i3 : Int) (i4 : Int) (l5 : List PV) (i6 : Int) : L_slices_swapRangeCmpFunc_api_Val_o2_1 i1 i2 i3 i4 l5 i6 =
  (bif (decide (i4 < i3)) then (bif ((true && (decide ((0 : Int) ≤ (IntKind.wrap .i64 (i2 + i4 : Int))))) && (decide ((IntKind.wrap .i64 (i2 + i4 : Int)) < (((List.length l5) : Nat) : Int)))) then (((l5)[(Int.toNat (IntKind.wrap .i64 (i2 + i4 : Int)))]?).bind (fun v7 => (c_s3 v7 (fun v8 => (bif ((true && (decide ((0 : Int) ≤ (IntKind.wrap .i64 (i1 + i4 : Int))))) && (decide ((IntKind.wrap .i64 (i1 + i4 : Int)) < (((List.length l5) : Nat) : Int)))) then (((l5)[(Int.toNat (IntKind.wrap .i64 (i1 + i4 : Int)))]?).bind (fun v9 => (c_s3 v9 (fun v10 => (bif ((true && (decide ((0 : Int) ≤ (IntKind.wrap .i64 (i1 + i4 : Int))))) && (decide ((IntKind.wrap .i64 (i1 + i4 : Int)) < (((List.length l5) : Nat) : Int)))) then (((l5)[(Int.toNat (IntKind.wrap .i64 (i1 + i4 : Int)))]?).bind (fun v11 => (bif ((true && (decide ((0 : Int) ≤ (IntKind.wrap .i64 (i2 + i4 : Int))))) && (decide ((IntKind.wrap .i64 (i2 + i4 : Int)) < (((List.length (List.set l5 (Int.toNat (IntKind.wrap .i64 (i1 + i4 : Int))) (PV.slice 3 v8))) : Nat) : Int)))) then ((((List.set l5 (Int.toNat (IntKind.wrap .i64 (i1 + i4 : Int))) (PV.slice 3 v8)))[(Int.toNat (IntKind.wrap .i64 (i2 + i4 : Int)))]?).bind (fun v12 => (L_slices_swapRangeCmpFunc_api_Val_o2_1 i1 i2 i3 (IntKind.wrap .i64 (i4 + (1 : Int) : Int)) (List.set (List.set l5 (Int.toNat (IntKind.wrap .i64 (i1 + i4 : Int))) (PV.slice 3 v8)) (Int.toNat (IntKind.wrap .i64 (i2 + i4 : Int))) (PV.slice 3 v10)) i6))) else none))) else none))))) else none))))) else none) else (some ((AV.pv (PV.tup [])), [(Ob.fix 0 0 l5), (Ob.var false 0 (AV.pv (PV.int .i64 i6)))]))) := (T285o2.loop [1, 0] 2 _ rfl).trans (by kernel_rfl)
theorem o_slices_swapRangeCmpFunc_api_Val_o2_1 (i0 : Int) (i1 : Int) (i2 : Int) (l3 : List PV) (i4 : Int) : W n_slices_swapRangeCmpFunc_api_Val false [(AV.fx 0 0), (AV.pv (PV.int .i64 i0)), (AV.pv (PV.int .i64 i1)), (AV.pv (PV.int .i64 i2)), (AV.fnv n_bag_Sort_2 [] [(AV.own 1 0)])] [(Ob.fix 0 0 l3), (Ob.var false 0 (AV.pv (PV.int .i64 i4)))] =
  (L_slices_swapRangeCmpFunc_api_Val_o2_1 i0 i1 i2 (0 : Int) l3 i4) := goO (by kernel_rfl) (by kernel_rfl) T285o2 rfl (by kernel_rfl)
end Go.Cf

namespace Go.Cf
open Go Go.Ab
set_option linter.unusedVariables false
set_option linter.unusedSimpArgs false
structure Val where
  K : Int
  N : Int
  deriving DecidableEq
def Val.pv (v : Val) : PV := .agg [.int .i64 v.K, .int .i64 v.N]
@[simp] theorem Val.fold (v : Val) : PV.agg [.int .i64 v.K, .int .i64 v.N] = v.pv := rfl
@[simp] theorem Val.c_mk (v : Val) {R : Type} (f : Int → Int → Option R) : c_g_i64_i64 v.pv f = f v.K v.N := rfl
structure Def where
  Cols : Int
  Rows : Int
  deriving DecidableEq
def Def.pv (d : Def) : PV := .agg [.int .i64 d.Cols, .int .i64 d.Rows]
@[simp] theorem Def.fold (v : Def) : PV.agg [.int .i64 v.Cols, .int .i64 v.Rows] = v.pv := rfl
@[simp] theorem Def.c_mk (v : Def) {R : Type} (f : Int → Int → Option R) : c_g_i64_i64 v.pv f = f v.Cols v.Rows := rfl
@[simp] theorem Def.load0 (v : Def) : PV.load 3 v.pv 0 0 = some (.int .i64 v.Cols) := rfl
@[simp] theorem Def.load1 (v : Def) : PV.load 3 v.pv 1 0 = some (.int .i64 v.Rows) := rfl
def rowp (r : List Val) : PV := .slice 3 (r.map Val.pv)
def tabp (t : List (List Val)) : PV := .slice 0 (t.map rowp)
@[simp] theorem c_rowp (r : List Val) {R : Type} (f : List PV → Option R) : c_s3 (rowp r) f = f (r.map Val.pv) := rfl
@[simp] theorem c_tabp (t : List (List Val)) {R : Type} (f : List PV → Option R) : c_s0 (tabp t) f = f (t.map rowp) := rfl
@[simp] theorem rowp_fold (r : List Val) : PV.slice 3 (r.map Val.pv) = rowp r := rfl
@[simp] theorem tabp_fold (t : List (List Val)) : PV.slice 0 (t.map rowp) = tabp t := rfl
def intp (n : Int) : PV := .int .i64 n
@[simp] theorem c_intp (n : Int) {R : Type} (f : Int → Option R) : c_i64 (intp n) f = f n := rfl
def intsp (l : List Int) : PV := .slice 0 (l.map intp)
@[simp] theorem intsp_fold (l : List Int) : PV.slice 0 (l.map intp) = intsp l := rfl
@[simp] theorem c_intsp (l : List Int) {R : Type} (f : List PV → Option R) : c_s0 (intsp l) f = f (l.map intp) := rfl
def idxI {α : Type} (l : List α) (f : α → Bool) : Int := match l.findIdx? f with | some i => (i : Int) | none => -1
theorem idxI_any {α : Type} (l : List α) (f : α → Bool) : decide (idxI l f ≥ 0) = l.any f := by
  unfold idxI
  cases h : l.findIdx? f with
  | some i =>
    have := List.findIdx?_eq_some_iff_getElem.1 h
    obtain ⟨hi, h1, _⟩ := this
    have : l.any f = true := List.any_eq_true.2 ⟨_, List.getElem_mem hi, h1⟩
    rw [this]; simp
  | none =>
    have := List.findIdx?_eq_none_iff.1 h
    have : l.any f = false := by
      rw [Bool.eq_false_iff]
      intro e
      obtain ⟨x, hx, e⟩ := List.any_eq_true.1 e
      rw [this x hx] at e; cases e
    rw [this]; rfl
theorem loop_idx {R α : Type} (L : Int → Option R) (l : List α) (f : α → Bool) (g : Int → Option R) (hs : ∀ (i : Nat) (h : i < l.length), L (i : Int) = bif f l[i] then g (i : Int) else L ((i : Int) + 1)) (he : L (l.length : Int) = g (-1)) :
    L 0 = g (idxI l f) := by
  have : ∀ k i : Nat, i + k = l.length → L (i : Int) = g (match (l.drop i).findIdx? f with | some j => ((i + j : Nat) : Int) | none => -1) := by
    intro k
    induction k with
    | zero =>
      intro i h; simp at h; subst h
      rw [he, List.drop_of_length_le (Nat.le_refl _)]; rfl
    | succ k ih =>
      intro i h
      have hi : i < l.length := by omega
      rw [hs i hi, List.drop_eq_getElem_cons hi, List.findIdx?_cons]
      cases f l[i] with
      | true => simp
      | false =>
        simp only [cond_false, Bool.false_eq_true, if_false]
        rw [show ((i : Int) + 1) = ((i + 1 : Nat) : Int) by omega, ih (i + 1) (by omega)]
        cases (List.drop (i + 1) l).findIdx? f with
        | none => rfl
        | some j =>
          simp only [Option.map_some]
          congr 1; omega
  have h0 := this l.length 0 (by omega)
  simp only [Nat.zero_add, List.drop_zero] at h0
  exact h0
theorem w_idxVal (l : List Val) (g : Nat) (fs cs : List PV) (f : Val → Bool) (hl : l.length ≤ 9223372036854775807) (hf : ∀ x ∈ l, wc W g (fs ++ [x.pv] ++ cs) = some (.bool (f x))) :
    wc W n_slices_IndexFunc_api_Val_api_Val_b1f6 [rowp l, .fn g fs cs] = some (.int .i64 (idxI l f)) := by
  unfold rowp
  rw [e_slices_IndexFunc_api_Val_api_Val_b1f6, List.length_map]
  refine loop_idx (fun i => L_slices_IndexFunc_api_Val_api_Val_b1f6_1 (l.map Val.pv) (.fn g fs cs) l.length i) l f (fun n => some (.int .i64 n)) (fun i hi => ?_) ?_
  · rw [L_slices_IndexFunc_api_Val_api_Val_b1f6_1_eq]
    simp only [lt_len hi, nat_le, cond_true, Int.toNat_natCast, List.getElem?_map, List.getElem?_eq_getElem hi, Option.map_some, Option.bind_some, Val.c_mk, asFn_mk, Val.fold]
    rw [hf _ (List.getElem_mem hi), wrap64 (by omega) (by omega)]
    simp only [Option.bind_some, c_b_mk]
  · rw [L_slices_IndexFunc_api_Val_api_Val_b1f6_1_eq]; simp
theorem w_anyVal (l : List Val) (g : Nat) (fs cs : List PV) (f : Val → Bool) (hl : l.length ≤ 9223372036854775807) (hf : ∀ x ∈ l, wc W g (fs ++ [x.pv] ++ cs) = some (.bool (f x))) :
    wc W n_slices_ContainsFunc_api_Val_api_Val_c5fc [rowp l, .fn g fs cs] = some (.bool (l.any f)) := by
  have h := e_slices_ContainsFunc_api_Val_api_Val_c5fc (l.map Val.pv) (.fn g fs cs)
  rw [rowp_fold] at h
  rw [h, w_idxVal l g fs cs f hl hf]
  simp [← idxI_any]
def mayV (v : Val) : Bool := decide (v.K = 0) || ((decide (v.K = 1) || decide (v.K = 2)) && decide (v.N = 0))
theorem w_val_May (v : Val) : wc W n_val_May [v.pv] = some (.bool (mayV v)) := by
  have h := e_val_May v.K v.N
  rw [Val.fold] at h
  rw [h]
  unfold mayV
  by_cases h0 : v.K = 0
  · rw [h0]; simp
  · by_cases h1 : v.K = 1
    · rw [h1]; simp [BEq.beq]
    · by_cases h2 : v.K = 2
      · rw [h2]; simp [BEq.beq]
      · by_cases a : v.K ≥ 0
        · rw [decide_eq_true a, decide_eq_false (show ¬ v.K < 3 by omega)]; simp [h0, h1, h2]
        · rw [decide_eq_false a]; simp [h0, h1, h2]
end Go.Cf

namespace Go.Cf
open Go Go.Ab
set_option linter.unusedVariables false
set_option linter.unusedSimpArgs false
def bagp (c : List Int) (r : List (List Val)) : PV := .agg [intsp c, tabp r]
@[simp] theorem bagp_fold (c : List Int) (r : List (List Val)) : PV.agg [intsp c, tabp r] = bagp c r := rfl
@[simp] theorem c_bagp (c : List Int) (r : List (List Val)) {R : Type} (f : List PV → List PV → Option R) : c_g_s0_s0 (bagp c r) f = f (c.map intp) (r.map rowp) := rfl
theorem any_not {α : Type} (l : List α) (f : α → Bool) : (!l.any fun x => !f x) = l.all f := by
  induction l with
  | nil => rfl
  | cons a l ih => simp only [List.any_cons, List.all_cons, Bool.not_or, Bool.not_not, ih]
def upd (f : Nat → Bool) (v : Nat) : Nat → Bool := fun k => bif k == 0 + v * 1 then true else f k
def goC : (Nat → Bool) → List Int → Option (Nat → Bool)
  | f, [] => some f
  | f, c :: r => bif (decide (0 ≤ c) && decide (c ≤ 15)) && !f c.toNat then goC (upd f c.toNat) r else none
noncomputable def M1 (l1 l2 l3 : List PV) (n i : Int) (f : Nat → Bool) : Option PV := L_bag_May_1 l1 l2 l3 n i (f 0) (f 1) (f 2) (f 3) (f 4) (f 5) (f 6) (f 7) (f 8) (f 9) (f 10) (f 11) (f 12) (f 13) (f 14) (f 15)
noncomputable def M2 (l1 l2 l3 : List PV) (n i : Int) (f : Nat → Bool) : Option PV := L_bag_May_2 l1 l2 l3 n i (f 0) (f 1) (f 2) (f 3) (f 4) (f 5) (f 6) (f 7) (f 8) (f 9) (f 10) (f 11) (f 12) (f 13) (f 14) (f 15)
theorem load16 (f : Nat → Bool) : ∀ v : Nat, v < 16 → PV.load 17 (.agg [.bool (f 0), .bool (f 1), .bool (f 2), .bool (f 3), .bool (f 4), .bool (f 5), .bool (f 6), .bool (f 7), .bool (f 8), .bool (f 9), .bool (f 10), .bool (f 11), .bool (f 12), .bool (f 13), .bool (f 14), .bool (f 15)]) (0 + v * 1) 0 = some (.bool (f v))
  | 0, _ => rfl | 1, _ => rfl | 2, _ => rfl | 3, _ => rfl | 4, _ => rfl | 5, _ => rfl | 6, _ => rfl | 7, _ => rfl
  | 8, _ => rfl | 9, _ => rfl | 10, _ => rfl | 11, _ => rfl | 12, _ => rfl | 13, _ => rfl | 14, _ => rfl | 15, _ => rfl
  | n + 16, h => by omega
theorem may1_loop (cols : List Int) (rows : List PV) (hl : cols.length ≤ 9223372036854775807) : ∀ (k i : Nat) (f : Nat → Bool), i + k = cols.length →
    M1 (cols.map intp) rows (cols.map intp) (cols.length : Int) (i : Int) f = match goC f (cols.drop i) with | some f' => M2 (cols.map intp) rows rows ((rows.length : Nat) : Int) 0 f' | none => some (.bool false)
  | 0, i, f, h => by
    unfold M1
    rw [L_bag_May_1_eq, show i = cols.length by omega]
    simp only [ge_len, cond_false, List.drop_length, goC]
    rfl
  | k + 1, i, f, h => by
    have hi : i < cols.length := by omega
    unfold M1
    rw [L_bag_May_1_eq, List.drop_eq_getElem_cons hi, goC]
    simp only [lt_len hi, nat_le, cond_true, Int.toNat_natCast, List.getElem?_map, List.getElem?_eq_getElem hi, Option.map_some, Option.bind_some, c_intp]
    by_cases h0 : cols[i] < 0
    · rw [decide_eq_true h0, decide_eq_false (show ¬ 0 ≤ cols[i] by omega)]; rfl
    rw [decide_eq_false h0, decide_eq_true (show 0 ≤ cols[i] by omega)]
    by_cases h15 : cols[i] > 15
    · rw [decide_eq_true h15, decide_eq_false (show ¬ cols[i] ≤ 15 by omega)]; rfl
    rw [decide_eq_false h15, decide_eq_true (show cols[i] ≤ 15 by omega), decide_eq_true (show cols[i] < 16 by omega)]
    simp only [cond_false, Bool.and_self, cond_true, Bool.true_and, load16 f cols[i].toNat (by omega), Option.bind_some, c_b_mk]
    cases hf : f cols[i].toNat with
    | true => rfl
    | false =>
      simp only [cond_false, Bool.not_false, cond_true, decide_eq_true (show 0 + cols[i].toNat * 1 + 1 ≤ 16 by omega), Bool.and_true]
      rw [wrap64 (by omega) (by omega)]
      exact may1_loop cols rows hl k (i + 1) (upd f cols[i].toNat) (by omega)
theorem goC_iff : ∀ (cols : List Int) (f : Nat → Bool), (goC f cols).isSome = true ↔ (∀ c ∈ cols, (0 ≤ c ∧ c ≤ 15) ∧ f c.toNat = false) ∧ cols.Nodup
  | [], f => by simp [goC]
  | c :: r, f => by
    unfold goC
    cases hb : (decide (0 ≤ c) && decide (c ≤ 15)) && !f c.toNat with
    | false =>
      simp only [cond_false, Option.isSome_none, Bool.false_eq_true, false_iff, not_and]
      intro h
      have := h c (by simp)
      rw [decide_eq_true this.1.1, decide_eq_true this.1.2, this.2] at hb
      cases hb
    | true =>
      simp only [cond_true]
      rw [goC_iff r]
      simp only [Bool.and_eq_true, decide_eq_true_eq, Bool.not_eq_true'] at hb
      obtain ⟨⟨c0, c15⟩, hf⟩ := hb
      simp only [List.nodup_cons, List.mem_cons, forall_eq_or_imp, upd, Nat.zero_add, Nat.mul_one]
      constructor
      · rintro ⟨h1, h2⟩
        refine ⟨⟨⟨⟨c0, c15⟩, hf⟩, fun x hx => ⟨(h1 x hx).1, ?_⟩⟩, ?_, h2⟩
        · have := (h1 x hx).2
          cases e : (x.toNat == c.toNat) with
          | true => rw [e] at this; cases this
          | false => rw [e] at this; exact this
        · intro hc
          have := (h1 c hc).2
          rw [beq_t rfl] at this; cases this
      · rintro ⟨⟨_, h1⟩, h2, h3⟩
        refine ⟨fun x hx => ⟨(h1 x hx).1, ?_⟩, h3⟩
        have hne : x ≠ c := fun e => h2 (e ▸ hx)
        have := (h1 x hx).1
        rw [beq_f (show x.toNat ≠ c.toNat by omega)]
        exact (h1 x hx).2
def colsB (cols : List Int) : Bool := (goC (fun _ => false) cols).isSome
theorem colsB_iff (cols : List Int) : colsB cols = true ↔ (∀ c ∈ cols, 0 ≤ c ∧ c ≤ 15) ∧ cols.Nodup := by
  unfold colsB
  rw [goC_iff]
  simp
def rowB (n : Nat) (r : List Val) : Bool := decide (r.length = n) && r.all mayV
def mayB (c : List Int) (r : List (List Val)) : Bool := colsB c && r.all (rowB c.length) && decide (r.length ≤ 5000)
theorem w_mayB1 (v : Val) : wc W n_bag_May_1 [v.pv] = some (.bool (!mayV v)) := by
  have h := e_bag_May_1 v.K v.N
  rw [Val.fold] at h
  rw [h, w_val_May]; rfl
theorem w_bag_May (c : List Int) (r : List (List Val)) (hc : c.length ≤ 9223372036854775807) (hr : r.length ≤ 9223372036854775807) (hl : ∀ x ∈ r, x.length ≤ 9223372036854775807) : wc W n_bag_May [bagp c r] = some (.bool (mayB c r)) := by
  have h := e_bag_May (c.map intp) (r.map rowp)
  rw [intsp_fold, tabp_fold, bagp_fold] at h
  have h1 := may1_loop c (r.map rowp) hc c.length 0 (fun _ => false) (by omega)
  rw [List.drop_zero] at h1
  rw [h, List.length_map]
  refine h1.trans ?_
  unfold mayB colsB
  cases hg : goC (fun _ => false) c with
  | none => rfl
  | some f =>
    simp only [Option.isSome_some, Bool.true_and, List.length_map]
    rw [loop_all (fun i => M2 (c.map intp) (r.map rowp) (r.map rowp) (r.length : Int) i f) r.length (fun i => (r[i]?).all (rowB c.length)) (some (.bool false)) (some (.bool (decide (r.length ≤ 5000)))) ?_ ?_, all_get]
    · cases r.all (rowB c.length) <;> rfl
    · intro i hi
      unfold M2
      rw [L_bag_May_2_eq]
      simp only [List.length_map, lt_len hi, nat_le, cond_true, Int.toNat_natCast, List.getElem?_map, List.getElem?_eq_getElem hi, Option.map_some, Option.bind_some, c_rowp, rowp_fold, Option.all_some, w_anyVal r[i] n_bag_May_1 [] [] (fun v => !mayV v) (hl _ (List.getElem_mem hi)) (fun x _ => w_mayB1 x), c_b_mk]
      rw [wrap64 (by omega) (by omega)]
      unfold rowB
      by_cases e : r[i].length = c.length
      · rw [bne_f (by rw [e]), decide_eq_true e, ← any_not]
        cases r[i].any fun v => !mayV v <;> rfl
      · rw [bne_t (by omega), decide_eq_false e]; rfl
    · unfold M2
      rw [L_bag_May_2_eq]
      simp only [List.length_map, ge_len, cond_false]
      congr 2
      have : ((r.length : Int) ≤ 5000) = (r.length ≤ 5000) := by apply propext; omega
      simp only [this]
theorem colsB_len {c : List Int} (h : colsB c = true) : c.length ≤ 16 := by
  obtain ⟨h1, h2⟩ := (colsB_iff c).1 h
  have hsub : c ⊆ (List.range 16).map fun n : Nat => (n : Int) := by
    intro x hx
    have := h1 x hx
    rw [List.mem_map]
    exact ⟨x.toNat, by simp; omega, by omega⟩
  have := List.Nodup.length_le_of_subset h2 hsub
  simpa using this
theorem mayB_row {c : List Int} {r : List (List Val)} (h : mayB c r = true) : c.length ≤ 16 ∧ r.length ≤ 5000 ∧ ∀ x ∈ r, x.length = c.length ∧ x.all mayV = true := by
  unfold mayB at h
  simp only [Bool.and_eq_true, decide_eq_true_eq, List.all_eq_true] at h
  refine ⟨colsB_len h.1.1, h.2, fun x hx => ?_⟩
  have := h.1.2 x hx
  unfold rowB at this
  simp only [Bool.and_eq_true, decide_eq_true_eq] at this
  exact this
def bagR (x : Option (List Int × List (List Val))) : PV := match x with | some b => .tup [bagp b.1 b.2, .bool true] | none => .tup [bagp [] [], .bool false]
end Go.Cf

namespace Go.Cf
open Go Go.Ab
set_option linter.unusedVariables false
set_option linter.unusedSimpArgs false
def badV : Val := ⟨2, 0⟩
def VOk (v : Val) : Prop := I64 v.K ∧ I64 v.N
def lookR (cols : List Int) (row : List Val) (c : Int) : Val := bif decide (idxI cols (fun x => c == x) < 0) then badV else bif decide (idxI cols (fun x => c == x) ≥ (row.length : Int)) then badV else row.getD (idxI cols (fun x => c == x)).toNat badV
theorem w_Index (l : List Int) (n : Int) (hl : l.length ≤ 9223372036854775807) : wc W n_slices_Index_int_int [intsp l, .int .i64 n] = some (.int .i64 (idxI l (fun x => n == x))) := by
  have h := e_slices_Index_int_int (l.map intp) n
  rw [intsp_fold] at h
  rw [h, List.length_map]
  refine loop_idx (fun i => L_slices_Index_int_int_1 (l.map intp) n l.length i) l (fun x => n == x) (fun n => some (.int .i64 n)) (fun i hi => ?_) ?_
  · rw [L_slices_Index_int_int_1_eq]
    simp only [lt_len hi, nat_le, cond_true, Int.toNat_natCast, List.getElem?_map, List.getElem?_eq_getElem hi, Option.map_some, Option.bind_some, c_intp]
    rw [wrap64 (by omega) (by omega)]
  · rw [L_slices_Index_int_int_1_eq]; simp
def fewB (c : List Int) (r : List (List Val)) (m : Nat) : Bool := decide (r.length ≤ m) && decide (c.length ≤ 20) && r.all fun x => decide (x.length ≤ 20)
theorem w_few (c : List Int) (r : List (List Val)) (m : Nat) (hr : r.length ≤ 9223372036854775807) : wc W n_roadbooklaw03_few [bagp c r, .int .i64 (m : Int)] = some (.bool (fewB c r m)) := by
  have h := e_roadbooklaw03_few (c.map intp) (r.map rowp) (m : Int)
  rw [intsp_fold, tabp_fold, bagp_fold] at h
  rw [h, List.length_map, List.length_map]
  unfold fewB
  by_cases h1 : r.length ≤ m
  · rw [decide_eq_true h1, decide_eq_false (show ¬ (r.length : Int) > (m : Int) by omega)]
    by_cases h2 : c.length ≤ 20
    · rw [decide_eq_true h2, decide_eq_false (show ¬ (c.length : Int) > 20 by omega)]
      simp only [cond_false, Bool.and_self, Bool.true_and, J_roadbooklaw03_few_1_eq]
      rw [loop_all (fun i => L_roadbooklaw03_few_2 (c.map intp) (r.map rowp) i) r.length (fun i => (r[i]?).all fun x => decide (x.length ≤ 20)) (some (.bool false)) (some (.bool true)) ?_ ?_, all_get]
      · cases r.all fun x => decide (x.length ≤ 20) <;> rfl
      · intro i hi
        rw [L_roadbooklaw03_few_2_eq]
        simp only [List.length_map, lt_len hi, nat_le, cond_true, Int.toNat_natCast, List.getElem?_map, List.getElem?_eq_getElem hi, Option.map_some, Option.bind_some, c_rowp, Option.all_some]
        rw [wrap64 (by omega) (by omega)]
        by_cases h3 : r[i].length ≤ 20
        · rw [decide_eq_true h3, decide_eq_false (show ¬ (r[i].length : Int) > 20 by omega)]; rfl
        · rw [decide_eq_false h3, decide_eq_true (show (r[i].length : Int) > 20 by omega)]; rfl
      · rw [L_roadbooklaw03_few_2_eq]; simp only [List.length_map, ge_len, cond_false]
    · rw [decide_eq_false h2, decide_eq_true (show (c.length : Int) > 20 by omega)]
      simp
  · rw [decide_eq_false h1, decide_eq_true (show (r.length : Int) > (m : Int) by omega)]
    simp
theorem fewB_of {c : List Int} {r : List (List Val)} {m : Nat} (h : fewB c r m = true) : r.length ≤ m ∧ c.length ≤ 20 ∧ ∀ x ∈ r, x.length ≤ 20 := by
  unfold fewB at h
  simp only [Bool.and_eq_true, decide_eq_true_eq, List.all_eq_true] at h
  exact ⟨h.1.1, h.1.2, h.2⟩
theorem loop_all2 {α : Type} [DecidableEq α] {R : Type} (L : Int → Option R) (a b : List α) (e : a.length = b.length) (r s : Option R) (hs : ∀ i : Nat, ∀ (h : i < a.length) (h' : i < b.length), L (i : Int) = bif decide (a[i] = b[i]) then L ((i : Int) + 1) else r) (he : L (a.length : Int) = s) :
    L 0 = bif decide (a = b) then s else r := by
  rw [loop_all L a.length (fun i => decide (a[i]? = b[i]?)) r s (fun i hi => ?_) he, all_eq a b e]
  have hi' : i < b.length := by omega
  rw [hs i hi hi', List.getElem?_eq_getElem hi, List.getElem?_eq_getElem hi']
  simp only [Option.some.injEq]
theorem lookR_ok (cols : List Int) {row : List Val} (h : ∀ v ∈ row, VOk v) (c : Int) : VOk (lookR cols row c) := by
  have hb : VOk badV := ⟨⟨by decide, by decide⟩, ⟨by decide, by decide⟩⟩
  unfold lookR
  cases decide (idxI cols (fun x => c == x) < 0) with
  | true => exact hb
  | false =>
    cases decide (idxI cols (fun x => c == x) ≥ (row.length : Int)) with
    | true => exact hb
    | false =>
      simp only [cond_false]
      rw [List.getD_eq_getElem?_getD]
      cases hr : row[(idxI cols (fun x => c == x)).toNat]? with
      | none => exact hb
      | some v => exact h v (List.mem_of_getElem? hr)
def ROk (r : List Val) : Prop := ∀ v ∈ r, VOk v
def inC (c : List Int) (x : Int) : Bool := decide (x ∈ c)
theorem idxI_lt {c : List Int} {x : Int} : decide (idxI c (fun y => x == y) < 0) = !inC c x := by
  have h := idxI_any c (fun y => x == y)
  have h2 : c.any (fun y => x == y) = inC c x := by
    unfold inC
    rw [Bool.eq_iff_iff, List.any_eq_true, decide_eq_true_eq]
    constructor
    · rintro ⟨y, hy, e⟩; rw [beq_iff_eq] at e; subst e; exact hy
    · intro h; exact ⟨x, h, by simp⟩
  rw [h2] at h
  rw [← h]
  by_cases hh : idxI c (fun y => x == y) < 0
  · rw [decide_eq_true hh, decide_eq_false (by omega)]; rfl
  · rw [decide_eq_false hh, decide_eq_true (by omega)]; rfl
theorem idxI_len (c : List Int) (x : Int) : idxI c (fun y => x == y) < (c.length : Int) := by
  unfold idxI
  cases h : c.findIdx? (fun y => x == y) with
  | none => simp only; omega
  | some i =>
    obtain ⟨hi, _⟩ := List.findIdx?_eq_some_iff_getElem.1 h
    simp only; omega
theorem lookR_in {c : List Int} {row : List Val} {x : Int} (h : inC c x = true) (hl : row.length = c.length) : (row[(idxI c (fun y => x == y)).toNat]? = some (lookR c row x)) ∧ 0 ≤ idxI c (fun y => x == y) := by
  have h1 : decide (idxI c (fun y => x == y) < 0) = false := by rw [idxI_lt, h]; rfl
  have h2 := of_decide_eq_false h1
  have h3 := idxI_len c x
  refine ⟨?_, by omega⟩
  unfold lookR
  rw [h1, decide_eq_false (show ¬ idxI c (fun y => x == y) ≥ (row.length : Int) by omega)]
  have hlt : (idxI c (fun y => x == y)).toNat < row.length := by omega
  simp only [cond_false, List.getElem?_eq_getElem hlt, List.getD_eq_getElem?_getD, Option.getD_some]
def atC (c cols : List Int) : List Int := cols.map fun x => idxI c (fun y => x == y)
def pickR (c cols : List Int) (row : List Val) : List Val := cols.map (lookR c row)
theorem idxI_get {c : List Int} {x : Int} (h : inC c x = true) : c[(idxI c (fun y => x == y)).toNat]? = some x := by
  have h1 : decide (idxI c (fun y => x == y) < 0) = false := by rw [idxI_lt, h]; rfl
  have h2 := of_decide_eq_false h1
  unfold idxI at h2 ⊢
  cases hf : c.findIdx? (fun y => x == y) with
  | none => rw [hf] at h2; simp only at h2; omega
  | some i =>
    obtain ⟨hi, e, _⟩ := List.findIdx?_eq_some_iff_getElem.1 hf
    simp only [Int.toNat_natCast, List.getElem?_eq_getElem hi]
    rw [beq_iff_eq] at e
    rw [e]
theorem look_pick {c cols : List Int} {row : List Val} {y : Int} (h : inC cols y = true) : lookR cols (pickR c cols row) y = lookR c row y := by
  have h1 := (lookR_in (row := pickR c cols row) h (by unfold pickR; rw [List.length_map])).1
  have h2 := idxI_get h
  unfold pickR at h1
  rw [List.getElem?_map, h2, Option.map_some] at h1
  exact (Option.some.inj h1).symm
theorem nodup_idx {α : Type} : ∀ {l : List α}, l.Nodup → ∀ {j k : Nat} {o : α}, l[j]? = some o → l[k]? = some o → j = k
  | [], _, _, _, _, h, _ => by simp at h
  | x :: r, hn, 0, 0, o, h, hk => rfl
  | x :: r, hn, 0, k + 1, o, h, hk => by
    simp only [List.getElem?_cons_zero, Option.some.injEq] at h; subst h
    exact absurd (List.mem_of_getElem? (by simpa using hk)) (List.nodup_cons.1 hn).1
  | x :: r, hn, j + 1, 0, o, h, hk => by
    simp only [List.getElem?_cons_zero, Option.some.injEq] at hk; subst hk
    exact absurd (List.mem_of_getElem? (by simpa using h)) (List.nodup_cons.1 hn).1
  | x :: r, hn, j + 1, k + 1, o, h, hk => by
    exact congrArg (· + 1) (nodup_idx (o := o) (List.nodup_cons.1 hn).2 (by simpa using h) (by simpa using hk))
theorem place_of {is : List Nat} (hn : is.Nodup) {o j : Nat} (h : is[j]? = some o) : place is o = some j := by
  cases hp : place is o with
  | none => exact absurd (List.mem_of_getElem? h) (place_none hp)
  | some k =>
    have hk := place_some hp
    exact congrArg some (nodup_idx hn h hk).symm
theorem look_self {c : List Int} {row : List Val} (hn : c.Nodup) (hl : row.length = c.length) : pickR c c row = row := by
  unfold pickR
  apply List.ext_getElem?
  intro i
  rw [List.getElem?_map]
  by_cases hi : i < c.length
  · rw [List.getElem?_eq_getElem hi, Option.map_some]
    have hin : inC c c[i] = true := by unfold inC; exact decide_eq_true (List.getElem_mem hi)
    have h1 := (lookR_in hin hl).1
    have h2 := idxI_get hin
    have hlt := (List.getElem?_eq_some_iff.1 h2).1
    have e : (idxI c (fun y => c[i] == y)).toNat = i := nodup_idx hn h2 (List.getElem?_eq_getElem hi)
    rw [e] at h1
    exact h1.symm
  · rw [List.getElem?_eq_none (by omega), List.getElem?_eq_none (by omega)]; rfl
theorem mayB_parts {c : List Int} {r : List (List Val)} (h : mayB c r = true) : colsB c = true ∧ r.all (rowB c.length) = true ∧ r.length ≤ 5000 := by
  unfold mayB at h
  simp only [Bool.and_eq_true, decide_eq_true_eq] at h
  exact ⟨h.1.1, h.1.2, h.2⟩
theorem mayB_filter {c : List Int} {r : List (List Val)} (f : List Val → Bool) (h : mayB c r = true) : mayB c (r.filter f) = true := by
  obtain ⟨h1, h2, h3⟩ := mayB_parts h
  unfold mayB
  rw [h1, Bool.true_and, Bool.and_eq_true]
  refine ⟨?_, decide_eq_true (Nat.le_trans (List.length_filter_le _ _) h3)⟩
  rw [List.all_eq_true] at h2 ⊢
  exact fun x hx => h2 x (List.mem_filter.1 hx).1
theorem mayB_nil {c : List Int} {r : List (List Val)} (h : mayB c r = true) : mayB c [] = true := by
  unfold mayB; rw [(mayB_parts h).1]; rfl
theorem pickR_ok {c cols : List Int} {row : List Val} (h : ROk row) : ROk (pickR c cols row) := fun v hv => by
  unfold pickR at hv
  obtain ⟨x, _, rfl⟩ := List.mem_map.1 hv
  exact lookR_ok c h x
end Go.Cf

namespace Go.Cf
open Go Go.Ab
set_option linter.unusedVariables false
theorem len63 {n : Nat} (h : n ≤ maxLen) : n ≤ 9223372036854775807 := h
theorem ty_api_Val {p : PV} (h : Typed cfg t_api_Val p) : ∃ v : Val, p = v.pv ∧ VOk v := by
  obtain ⟨ps, rfl, hl⟩ := h.struct_inv (fs := [(t_int, 0), (t_int, 1)]) (by kernel_rfl)
  obtain ⟨x, qs, rfl, hx, hl⟩ := typedL_cons hl
  obtain ⟨y, rfl, hy⟩ := typedL1 hl
  obtain ⟨a, rfl, ha⟩ := ty_int hx
  obtain ⟨b, rfl, hb⟩ := ty_int hy
  exact ⟨⟨a, b⟩, rfl, ha, hb⟩
def Row0 (r : List Val) : Prop := r.length ≤ 9223372036854775807 ∧ ROk r
theorem ty_s_api_Val {p : PV} (h : Typed cfg t_s_api_Val p) : ∃ r : List Val, p = rowp r ∧ Row0 r := by
  obtain ⟨xs, rfl, hl, hx⟩ := h.slice_inv (e := t_api_Val) (by kernel_rfl)
  obtain ⟨r, rfl, hr⟩ := list_of (Q := VOk) (f := Val.pv) (xs := xs) (fun x h => ty_api_Val (hx x h))
  exact ⟨r, rfl, len63 (by simpa using hl), hr⟩
def Tab0 (t : List (List Val)) : Prop := t.length ≤ 9223372036854775807 ∧ ∀ r ∈ t, Row0 r
theorem ty_s_s_api_Val {p : PV} (h : Typed cfg t_s_s_api_Val p) : ∃ t : List (List Val), p = tabp t ∧ Tab0 t := by
  obtain ⟨xs, rfl, hl, hx⟩ := h.slice_inv (e := t_s_api_Val) (by kernel_rfl)
  obtain ⟨r, rfl, hr⟩ := list_of (Q := Row0) (f := rowp) (xs := xs) (fun x h => ty_s_api_Val (hx x h))
  exact ⟨r, rfl, len63 (by simpa using hl), hr⟩
theorem ty_s_int {p : PV} (h : Typed cfg t_s_int p) : ∃ l : List Int, p = intsp l ∧ (l.length ≤ 9223372036854775807 ∧ ∀ n ∈ l, I64 n) := by
  obtain ⟨xs, rfl, hl, hx⟩ := h.slice_inv (e := t_int) (by kernel_rfl)
  obtain ⟨r, rfl, hr⟩ := list_of (Q := I64) (f := intp) (xs := xs) (fun x h => ty_int (hx x h))
  exact ⟨r, rfl, len63 (by simpa using hl), hr⟩
def Bag0 (b : List Int × List (List Val)) : Prop := b.1.length ≤ 9223372036854775807 ∧ Tab0 b.2
theorem ty_api_Bag {p : PV} (h : Typed cfg t_api_Bag p) : ∃ b : List Int × List (List Val), p = bagp b.1 b.2 ∧ Bag0 b := by
  obtain ⟨ps, rfl, hl⟩ := h.struct_inv (fs := [(t_s_int, 0), (t_s_s_api_Val, 1)]) (by kernel_rfl)
  obtain ⟨x, qs, rfl, hx, hl⟩ := typedL_cons hl
  obtain ⟨y, rfl, hy⟩ := typedL1 hl
  obtain ⟨a, rfl, ha⟩ := ty_s_int hx
  obtain ⟨b, rfl, hb⟩ := ty_s_s_api_Val hy
  exact ⟨(a, b), rfl, ha.1, hb⟩
end Go.Cf

namespace Go.Cf
open Go Go.Ab
set_option linter.unusedVariables false
set_option linter.unusedSimpArgs false
def fineV (v : Val) : Val := bif mayV v then v else badV
theorem w_fine (v : Val) : wc W n_val_fine [v.pv] = some (fineV v).pv := by
  have h := e_val_fine v.K v.N
  have hb := e_val_bad
  rw [Val.fold, w_val_May, hb] at h
  rw [h]
  unfold fineV
  simp only [Option.bind_some, c_b_mk, c_g_i64_i64_mk]
  cases mayV v <;> rfl
theorem w_kind1 (v : Val) (k : Int) : wc W n_val_kind_1 [v.pv, .imm 0 (.int .i64 k) 0] = some (.bool ((fineV v).K == k)) := by
  have h := e_val_kind_1 v.K v.N k
  rw [Val.fold, w_fine] at h
  rw [h]
  simp only [Option.bind_some, Val.c_mk]
theorem w_someKind (l : List Val) (k : Int) (hl : l.length ≤ 9223372036854775807) : wc W n_val_some_api_Val [rowp l, .fn n_val_kind_1 [] [.imm 0 (.int .i64 k) 0]] = some (.bool (l.any fun v => (fineV v).K == k)) := by
  have h := e_val_some_api_Val (l.map Val.pv) (.fn n_val_kind_1 [] [.imm 0 (.int .i64 k) 0])
  rw [rowp_fold, w_anyVal l n_val_kind_1 [] [.imm 0 (.int .i64 k) 0] (fun v => (fineV v).K == k) hl (fun x _ => w_kind1 x k)] at h
  rw [h]
  simp only [Option.bind_some, c_b_mk]
def addN : List Val → Int
  | [] => 0
  | v :: r => (if v.K = 0 then v.N else 0) + addN r
def manyN (l : List Val) : Nat := (l.filter fun v => decide (v.K = 0)).length
def sumV (l : List Val) : Val := bif l.any (fun v => (fineV v).K == 2) then badV else if manyN l = 0 then ⟨1, 0⟩ else if -9223372036854775808 ≤ addN l ∧ addN l ≤ 9223372036854775807 then ⟨0, addN l⟩ else badV
theorem addN_perm {l l' : List Val} (h : l.Perm l') : addN l = addN l' := by
  induction h with
  | nil => rfl
  | cons x _ ih => simp only [addN, ih]
  | swap x y l => simp only [addN]; omega
  | trans _ _ ih1 ih2 => exact ih1.trans ih2
theorem any_perm {α : Type} {l l' : List α} (h : l.Perm l') (f : α → Bool) : l.any f = l'.any f := by
  rw [Bool.eq_iff_iff, List.any_eq_true, List.any_eq_true]
  constructor
  · rintro ⟨x, hx, hf⟩; exact ⟨x, h.mem_iff.1 hx, hf⟩
  · rintro ⟨x, hx, hf⟩; exact ⟨x, h.mem_iff.2 hx, hf⟩
theorem sumV_perm {l l' : List Val} (h : l.Perm l') : sumV l = sumV l' := by
  unfold sumV manyN
  rw [any_perm h, addN_perm h, (h.filter _).length_eq]
theorem wrapU (n : Int) : IntKind.wrap .u64 n = n % 18446744073709551616 := by
  simp only [IntKind.wrap, IntKind.bits, IntKind.signed]
  simp
theorem wrapS (n : Int) (h0 : 0 ≤ n) (h1 : n < 18446744073709551616) : IntKind.wrap .i64 n = if n < 9223372036854775808 then n else n - 18446744073709551616 := by
  simp only [IntKind.wrap, IntKind.bits, IntKind.signed]
  simp
  split <;> omega
theorem sum_step (h lo N S : Int) (h0 : 0 ≤ h) (h1 : h < 18446744073709551616) (l0 : 0 ≤ lo) (l1 : lo < 18446744073709551616) (n0 : -9223372036854775808 ≤ N) (n1 : N ≤ 9223372036854775807)
    (e : (h * 18446744073709551616 + lo) % 340282366920938463463374607431768211456 = S % 340282366920938463463374607431768211456) :
    (((h + ((lo + N % 18446744073709551616 + 0) / 18446744073709551616 + (Int.fdiv N 9223372036854775808) % 18446744073709551616) % 18446744073709551616) % 18446744073709551616) * 18446744073709551616 + (lo + N % 18446744073709551616 + 0) % 18446744073709551616) % 340282366920938463463374607431768211456 = (S + N) % 340282366920938463463374607431768211456 := by
  have hd : Int.fdiv N 9223372036854775808 = if N < 0 then -1 else 0 := by
    rw [Int.fdiv_eq_ediv_of_nonneg _ (by omega)]
    split <;> omega
  rw [hd]
  split
  · omega
  · omega
theorem sum_loop (l : List Val) (hr : ROk l) (hl : l.length ≤ 4294967296) : ∀ (k i : Nat) (h lo : Int) (x y : Int), i + k = l.length → 0 ≤ h → h < 18446744073709551616 → 0 ≤ lo → lo < 18446744073709551616 →
    (h * 18446744073709551616 + lo) % 340282366920938463463374607431768211456 = addN (l.take i) % 340282366920938463463374607431768211456 →
    L_val_Sum_1 h lo ((manyN (l.take i) : Nat) : Int) (l.map Val.pv) (l.length : Int) (i : Int) x y = some (if manyN l = 0 then (⟨1, 0⟩ : Val) else if -9223372036854775808 ≤ addN l ∧ addN l ≤ 9223372036854775807 then ⟨0, addN l⟩ else badV).pv := by
  intro k
  induction k with
  | zero =>
    intro i h lo x y hi h0 h1 l0 l1 e
    have hil : i = l.length := by omega
    subst hil
    rw [List.take_length] at e ⊢
    rw [L_val_Sum_1_eq]
    simp only [ge_len, cond_false]
    by_cases hm : manyN l = 0
    · rw [if_pos hm, beq_t (by omega), e_val_null]; rfl
    · rw [if_neg hm, beq_f (by omega), cond_false]
      have hb : ∀ (m : List Val), ROk m → -(9223372036854775808 * (m.length : Int)) ≤ addN m ∧ addN m ≤ 9223372036854775808 * (m.length : Int) := by
        intro m
        induction m with
        | nil => intro _; simp [addN]
        | cons v m ih =>
          intro hm
          have hv := (hm v (by simp)).2
          have := ih (fun z hz => hm z (by simp [hz]))
          unfold I64 at hv
          simp only [addN, List.length_cons]
          split <;> omega
      have hS := hb l hr
      rw [wrapU, wrapS lo l0 l1]
      have hd : ∀ n : Int, -9223372036854775808 ≤ n → n ≤ 9223372036854775807 → Int.fdiv n 9223372036854775808 = if n < 0 then -1 else 0 := fun n q1 q2 => by
        rw [Int.fdiv_eq_ediv_of_nonneg _ (by omega)]
        split <;> omega
      by_cases hlo : lo < 9223372036854775808
      · rw [if_pos hlo, hd lo (by omega) (by omega), if_neg (by omega)]
        by_cases hh : h = 0
        · subst hh
          rw [bne_f (by decide), cond_false, e_val_Of]
          have hs : addN l = lo := by omega
          rw [if_pos (by omega), hs]; rfl
        · rw [bne_t (by simpa using hh), cond_true, e_val_bad]
          have hs : ¬ (-9223372036854775808 ≤ addN l ∧ addN l ≤ 9223372036854775807) := by omega
          rw [if_neg hs]; rfl
      · rw [if_neg hlo, hd (lo - 18446744073709551616) (by omega) (by omega), if_pos (by omega)]
        by_cases hh : h = 18446744073709551615
        · subst hh
          rw [bne_f (by decide), cond_false, e_val_Of]
          have hs : addN l = lo - 18446744073709551616 := by omega
          rw [if_pos (by omega), hs]; rfl
        · rw [bne_t (by show h ≠ (-1) % 18446744073709551616; omega), cond_true, e_val_bad]
          have hs : ¬ (-9223372036854775808 ≤ addN l ∧ addN l ≤ 9223372036854775807) := by omega
          rw [if_neg hs]; rfl
  | succ k ih =>
    intro i h lo x y hi h0 h1 l0 l1 e
    have hlt : i < l.length := by omega
    have hv := hr l[i] (List.getElem_mem hlt)
    have hN := hv.2
    unfold I64 at hN
    have ht : l.take (i + 1) = l.take i ++ [l[i]] := by rw [List.take_append_getElem]
    have ha : ∀ (m : List Val) (v : Val), addN (m ++ [v]) = addN m + if v.K = 0 then v.N else 0 := by
      intro m v
      induction m with
      | nil => simp [addN]
      | cons z m ih => simp only [List.cons_append, addN, ih]; omega
    have hmn : ∀ (m : List Val) (v : Val), manyN (m ++ [v]) = manyN m + if v.K = 0 then 1 else 0 := by
      intro m v
      unfold manyN
      by_cases hk : v.K = 0 <;> simp [List.filter_append, hk]
    rw [L_val_Sum_1_eq]
    simp only [lt_len hlt, nat_le, cond_true, Int.toNat_natCast, List.getElem?_map, List.getElem?_eq_getElem hlt, Option.map_some, Option.bind_some, Val.c_mk]
    by_cases hk : l[i].K = 0
    · rw [bne_f hk, cond_false, wrapU, x_bits_Add64 lo _ 0 l0 (by omega) (by omega) (by omega)]
      simp only [Option.bind_some, asTup_mk, List.getElem?_cons_zero, List.getElem?_cons_succ, c_u64_mk]
      have e2 := sum_step h lo l[i].N _ h0 h1 l0 l1 hN.1 hN.2 e
      have hml : manyN (l.take i) ≤ l.length := by
        unfold manyN
        exact Nat.le_trans (List.length_filter_le _ _) (by rw [List.length_take]; omega)
      have hm3 : manyN (l.take (i + 1)) = manyN (l.take i) + 1 := by rw [ht, hmn, if_pos hk]
      have ha3 : addN (l.take (i + 1)) = addN (l.take i) + l[i].N := by rw [ht, ha, if_pos hk]
      rw [wrapU, wrapU, wrapU, wrap_succ (show manyN (l.take i) < 9223372036854775807 by omega), wrap_succ (show i < 9223372036854775807 by omega), ← hm3]
      exact ih (i + 1) _ _ x y (by omega) (by omega) (by omega) (by omega) (by omega) (by rw [ha3]; exact e2)
    · have hm3 : manyN (l.take (i + 1)) = manyN (l.take i) := by rw [ht, hmn, if_neg hk]; rfl
      have ha3 : addN (l.take (i + 1)) = addN (l.take i) := by rw [ht, ha, if_neg hk, Int.add_zero]
      rw [bne_t hk, cond_true, wrap_succ (show i < 9223372036854775807 by omega), ← hm3]
      exact ih (i + 1) h lo x y (by omega) h0 h1 l0 l1 (by rw [ha3]; exact e)
theorem w_Sum (l : List Val) (hr : ROk l) (hl : l.length ≤ 4294967296) : wc W n_val_Sum [rowp l] = some (sumV l).pv := by
  have h := e_val_Sum (l.map Val.pv)
  have hk := e_val_kind 2
  rw [rowp_fold, hk] at h
  rw [h]
  simp only [Option.bind_some, w_someKind l 2 (by omega), c_b_mk]
  unfold sumV
  cases l.any (fun v => (fineV v).K == 2) with
  | true => rw [e_val_bad]; rfl
  | false =>
    have := sum_loop l hr hl l.length 0 0 0 0 0 (by omega) (by omega) (by omega) (by omega) (by omega) rfl
    rw [List.length_map]
    exact this
end Go.Cf

namespace Go.Cf
set_option linter.unusedVariables false
theorem merge_split {α : Type} (le : α → α → Bool) : ∀ (n : Nat) (s1 t1 s2 t2 : List α), s1.length + s2.length = n →
    (∀ x ∈ t1, ∀ y ∈ s2, le x y = false) → (∀ x ∈ s1, ∀ y ∈ t2, le x y = true) →
    List.merge (s1 ++ t1) (s2 ++ t2) le = List.merge s1 s2 le ++ List.merge t1 t2 le
  | n, [], t1, [], t2, h, h1, h2 => by simp
  | n, [], [], y :: s2, t2, h, h1, h2 => by simp
  | n + 1, [], x :: t1, y :: s2, t2, h, h1, h2 => by
    have hxy := h1 x (by simp) y (by simp)
    have ih := merge_split le n [] (x :: t1) s2 t2 (by simp at h ⊢; omega) (fun a ha b hb => h1 a ha b (by simp [hb])) (fun a ha => by simp at ha)
    simp only [List.nil_append, List.nil_merge] at ih ⊢
    rw [List.cons_append, List.cons_merge_cons, if_neg (by rw [hxy]; decide), ih]
    rfl
  | n, x :: s1, t1, [], [], h, h1, h2 => by simp
  | n + 1, x :: s1, t1, [], z :: t2, h, h1, h2 => by
    have hxz := h2 x (by simp) z (by simp)
    have ih := merge_split le n s1 t1 [] (z :: t2) (by simp at h ⊢; omega) (fun a ha b hb => by simp at hb) (fun a ha b hb => h2 a (by simp [ha]) b hb)
    simp only [List.nil_append, List.merge_right] at ih ⊢
    rw [List.cons_append, List.cons_merge_cons, if_pos hxz, ih]
    rfl
  | n + 1, x :: s1, t1, y :: s2, t2, h, h1, h2 => by
    simp only [List.cons_append, List.cons_merge_cons]
    by_cases hxy : le x y = true
    · rw [if_pos hxy, if_pos hxy]
      have ih := merge_split le n s1 t1 (y :: s2) t2 (by simp at h ⊢; omega) h1 (fun a ha b hb => h2 a (by simp [ha]) b hb)
      rw [← List.cons_append, ih]; rfl
    · rw [if_neg hxy, if_neg hxy]
      have ih := merge_split le n (x :: s1) t1 s2 t2 (by simp at h ⊢; omega) (fun a ha b hb => h1 a ha b (by simp [hb])) h2
      rw [← List.cons_append, ih]; rfl
  | 0, [], x :: t1, y :: s2, t2, h, h1, h2 => by simp at h
  | 0, x :: s1, t1, [], z :: t2, h, h1, h2 => by simp at h
  | 0, x :: s1, t1, y :: s2, t2, h, h1, h2 => by simp at h
theorem merge_one_left {α : Type} (le : α → α → Bool) (x : α) (s t : List α) (hs : ∀ y ∈ s, le x y = false) (ht : ∀ y ∈ t, le x y = true) : List.merge [x] (s ++ t) le = s ++ x :: t := by
  have h := merge_split le s.length [] [x] s t (by simp) (fun a ha b hb => by simp at ha; subst ha; exact hs b hb) (fun a ha => by simp at ha)
  rw [List.nil_append, List.nil_merge] at h
  rw [h]
  congr 1
  cases t with
  | nil => simp
  | cons z t =>
    rw [List.cons_merge_cons, if_pos (ht z (by simp)), List.nil_merge]
theorem merge_one_right {α : Type} (le : α → α → Bool) (y : α) (s t : List α) (hs : ∀ x ∈ s, le x y = true) (ht : ∀ x ∈ t, le x y = false) : List.merge (s ++ t) [y] le = s ++ y :: t := by
  have h := merge_split le s.length s t [] [y] (by simp) (fun a ha b hb => by simp at hb) (fun a ha b hb => by simp at hb; subst hb; exact hs a ha)
  rw [List.nil_append, List.merge_right] at h
  rw [h]
  congr 1
  cases t with
  | nil => simp
  | cons z t =>
    rw [List.cons_merge_cons, if_neg (by rw [ht z (by simp)]; decide), List.merge_right]
def sw {α : Type} (l : List α) (i j : Nat) : List α := match l[i]?, l[j]? with | some x, some y => (l.set i y).set j x | _, _ => l
theorem sw_at {α : Type} (P M Q : List α) (x y : α) : sw (P ++ x :: (M ++ y :: Q)) P.length (P.length + 1 + M.length) = P ++ y :: (M ++ x :: Q) := by
  have h1 : (P ++ x :: (M ++ y :: Q))[P.length]? = some x := by simp
  have h2 : (P ++ x :: (M ++ y :: Q))[P.length + 1 + M.length]? = some y := by
    rw [List.getElem?_append_right (by omega), show P.length + 1 + M.length - P.length = M.length + 1 by omega, List.getElem?_cons_succ, List.getElem?_append_right (Nat.le_refl _)]
    simp
  unfold sw
  rw [h1, h2]
  simp only
  rw [List.set_append_right _ _ (Nat.le_refl _), Nat.sub_self, List.set_cons_zero, List.set_append_right _ _ (by omega), show P.length + 1 + M.length - P.length = M.length + 1 by omega, List.set_cons_succ, List.set_append_right _ _ (Nat.le_refl _), Nat.sub_self, List.set_cons_zero]
def swapN {α : Type} : Nat → Nat → Nat → List α → List α
  | 0, _, _, l => l
  | n + 1, a, b, l => swapN n (a + 1) (b + 1) (sw l a b)
theorem swapN_spec {α : Type} : ∀ (n : Nat) (P A M B Q : List α), A.length = n → B.length = n → swapN n P.length (P.length + n + M.length) (P ++ (A ++ (M ++ (B ++ Q)))) = P ++ (B ++ (M ++ (A ++ Q)))
  | 0, P, A, M, B, Q, hA, hB => by
    have h1 : A = [] := List.length_eq_zero_iff.1 hA
    have h2 : B = [] := List.length_eq_zero_iff.1 hB
    subst h1; subst h2; rfl
  | n + 1, P, [], M, B, Q, hA, hB => by simp at hA
  | n + 1, P, x :: A, M, [], Q, hA, hB => by simp at hB
  | n + 1, P, x :: A, M, y :: B, Q, hA, hB => by
    have hA' : A.length = n := by simpa using hA
    have hB' : B.length = n := by simpa using hB
    have e := sw_at P (A ++ M) (B ++ Q) x y
    rw [List.append_assoc, List.append_assoc] at e
    have ih := swapN_spec n (P ++ [y]) A (M ++ [x]) B Q hA' hB'
    simp only [List.append_assoc, List.length_append, List.length_singleton, List.cons_append, List.nil_append] at ih e ⊢
    unfold swapN
    rw [show P.length + (n + 1) + M.length = P.length + 1 + (A.length + M.length) by omega, e]
    rw [show P.length + 1 + (A.length + M.length) + 1 = P.length + 1 + n + (M.length + 1) by omega]
    exact ih
def rotG {α : Type} (m : Nat) : Nat → Nat → Nat → List α → List α
  | 0, _, _, l => l
  | f + 1, i, j, l => if i = j then swapN i (m - i) m l else if i > j then rotG m f (i - j) j (swapN j (m - i) m l) else rotG m f i (j - i) (swapN i (m - i) (m + j - i) l)
theorem rotG_spec {α : Type} : ∀ (f i j : Nat) (P X Y Q : List α), X.length = i → Y.length = j → 0 < i → 0 < j → i + j ≤ f →
    rotG (P.length + i) f i j (P ++ (X ++ (Y ++ Q))) = P ++ (Y ++ (X ++ Q))
  | 0, i, j, P, X, Y, Q, hX, hY, hi, hj, hf => by omega
  | f + 1, i, j, P, X, Y, Q, hX, hY, hi, hj, hf => by
    unfold rotG
    by_cases e : i = j
    · rw [if_pos e]
      subst e
      have h := swapN_spec i P X [] Y Q hX hY
      simp only [List.nil_append, List.length_nil, Nat.add_zero] at h
      rw [show P.length + i - i = P.length by omega]
      exact h
    · rw [if_neg e]
      by_cases g : i > j
      · rw [if_pos g]
        obtain ⟨X1, X2, rfl, h1⟩ : ∃ X1 X2, X = X1 ++ X2 ∧ X1.length = j := ⟨X.take j, X.drop j, (List.take_append_drop j X).symm, by simp; omega⟩
        have h2 : X2.length = i - j := by simp at hX; omega
        have h := swapN_spec j P X1 X2 Y Q h1 hY
        rw [show P.length + j + X2.length = P.length + i by omega] at h
        rw [show P.length + i - i = P.length by omega]
        simp only [List.append_assoc] at h ⊢
        rw [h]
        have ih := rotG_spec f (i - j) j (P ++ Y) X2 X1 Q h2 h1 (by omega) hj (by omega)
        simp only [List.append_assoc, List.length_append] at ih
        rw [show P.length + i = P.length + Y.length + (i - j) by omega]
        exact ih
      · rw [if_neg g]
        obtain ⟨Y1, Y2, rfl, h1⟩ : ∃ Y1 Y2, Y = Y1 ++ Y2 ∧ Y1.length = j - i := ⟨Y.take (j - i), Y.drop (j - i), (List.take_append_drop (j - i) Y).symm, by simp; omega⟩
        have h2 : Y2.length = i := by simp at hY; omega
        have h := swapN_spec i P X Y1 Y2 Q hX h2
        rw [show P.length + i + Y1.length = P.length + i + j - i by omega] at h
        rw [show P.length + i - i = P.length by omega]
        simp only [List.append_assoc] at h ⊢
        rw [h]
        have ih := rotG_spec f i (j - i) P Y2 Y1 (X ++ Q) h2 h1 hi (by omega) (by omega)
        exact ih
def bs (q : Nat → Bool) : Nat → Nat → Nat → Nat
  | 0, lo, _ => lo
  | f + 1, lo, hi => if lo < hi then (if q ((lo + hi) / 2) then bs q f ((lo + hi) / 2 + 1) hi else bs q f lo ((lo + hi) / 2)) else lo
theorem bs_spec (q : Nat → Bool) : ∀ (f lo hi : Nat), hi - lo ≤ f → lo ≤ hi → (∀ c d, lo ≤ c → c ≤ d → d < hi → q d = true → q c = true) →
    lo ≤ bs q f lo hi ∧ bs q f lo hi ≤ hi ∧ (∀ c, lo ≤ c → c < bs q f lo hi → q c = true) ∧ ∀ c, bs q f lo hi ≤ c → c < hi → q c = false
  | 0, lo, hi, h, hle, hm => by
    unfold bs
    exact ⟨Nat.le_refl _, hle, fun c h1 h2 => by omega, fun c h1 h2 => by omega⟩
  | f + 1, lo, hi, h, hle, hm => by
    unfold bs
    by_cases hlt : lo < hi
    · rw [if_pos hlt]
      by_cases hq : q ((lo + hi) / 2) = true
      · rw [if_pos hq]
        obtain ⟨k1, k2, k3, k4⟩ := bs_spec q f ((lo + hi) / 2 + 1) hi (by omega) (by omega) (fun c d h1 h2 h3 h4 => hm c d (by omega) h2 h3 h4)
        refine ⟨by omega, k2, fun c h1 h2 => ?_, k4⟩
        by_cases hc : c ≤ (lo + hi) / 2
        · exact hm c _ h1 hc (by omega) hq
        · exact k3 c (by omega) h2
      · rw [if_neg hq]
        obtain ⟨k1, k2, k3, k4⟩ := bs_spec q f lo ((lo + hi) / 2) (by omega) (by omega) (fun c d h1 h2 h3 h4 => hm c d h1 h2 (by omega) h4)
        refine ⟨k1, by omega, k3, fun c h1 h2 => ?_⟩
        by_cases hc : c < (lo + hi) / 2
        · exact k4 c h1 hc
        · cases hqc : q c with
          | false => rfl
          | true => exact absurd (hm _ c (by omega) (by omega) h2 hqc) hq
    · rw [if_neg hlt]
      exact ⟨Nat.le_refl _, hle, fun c h1 h2 => by omega, fun c h1 h2 => by omega⟩
theorem sw_at' {α : Type} (P M Q : List α) (x y : α) : sw (P ++ x :: (M ++ y :: Q)) (P.length + 1 + M.length) P.length = P ++ y :: (M ++ x :: Q) := by
  have h1 : (P ++ x :: (M ++ y :: Q))[P.length]? = some x := by simp
  have h2 : (P ++ x :: (M ++ y :: Q))[P.length + 1 + M.length]? = some y := by
    rw [List.getElem?_append_right (by omega), show P.length + 1 + M.length - P.length = M.length + 1 by omega, List.getElem?_cons_succ, List.getElem?_append_right (Nat.le_refl _)]
    simp
  unfold sw
  rw [h1, h2]
  simp only
  rw [List.set_append_right _ _ (by omega), show P.length + 1 + M.length - P.length = M.length + 1 by omega, List.set_cons_succ, List.set_append_right _ _ (Nat.le_refl _), Nat.sub_self, List.set_cons_zero, List.set_append_right _ _ (Nat.le_refl _), Nat.sub_self, List.set_cons_zero]
def mvR {α : Type} : Nat → Nat → List α → List α
  | 0, _, l => l
  | n + 1, k, l => mvR n (k + 1) (sw l k (k + 1))
theorem mvR_spec {α : Type} : ∀ (n : Nat) (P S Q : List α) (x : α), S.length = n → mvR n P.length (P ++ x :: (S ++ Q)) = P ++ (S ++ x :: Q)
  | 0, P, S, Q, x, h => by
    have h1 : S = [] := List.length_eq_zero_iff.1 h
    subst h1; rfl
  | n + 1, P, [], Q, x, h => by simp at h
  | n + 1, P, y :: S, Q, x, h => by
    have e := sw_at P [] (S ++ Q) x y
    simp only [List.nil_append, List.length_nil, Nat.add_zero] at e
    have ih := mvR_spec n (P ++ [y]) S Q x (by simpa using h)
    simp only [List.append_assoc, List.length_append, List.length_singleton, List.cons_append, List.nil_append] at ih ⊢
    unfold mvR
    rw [e]
    exact ih
def mvL {α : Type} : Nat → Nat → List α → List α
  | 0, _, l => l
  | n + 1, k, l => mvL n (k - 1) (sw l k (k - 1))
theorem mvL_spec {α : Type} : ∀ (n : Nat) (P S Q : List α) (y : α), S.length = n → mvL n (P.length + n) (P ++ (S ++ y :: Q)) = P ++ y :: (S ++ Q)
  | 0, P, S, Q, y, h => by
    have h1 : S = [] := List.length_eq_zero_iff.1 h
    subst h1; rfl
  | n + 1, P, S, Q, y, h => by
    obtain ⟨S', x, rfl⟩ : ∃ S' x, S = S' ++ [x] := ⟨S.dropLast, S.getLast (by intro e; subst e; simp at h), (List.dropLast_concat_getLast _).symm⟩
    have hS : S'.length = n := by simpa using h
    have e := sw_at' (P ++ S') [] Q x y
    simp only [List.nil_append, List.length_nil, Nat.add_zero, List.length_append, List.append_assoc, hS] at e
    have ih := mvL_spec n P S' (x :: Q) y hS
    simp only [List.append_assoc, List.cons_append, List.nil_append] at ih ⊢
    unfold mvL
    rw [show P.length + (n + 1) - 1 = P.length + n by omega, show P.length + (n + 1) = P.length + n + 1 by omega, e]
    exact ih
section
variable {α : Type} (le : α → α → Bool)
def leO (l : List α) (i j : Nat) : Bool := match l[i]?, l[j]? with | some x, some y => le x y | _, _ => true
def symF : Nat → Nat → Nat → Nat → List α → List α
  | 0, _, _, _, l => l
  | f + 1, a, m, b, l =>
    if m - a = 1 then mvR (bs (fun h => !leO le l a h) (b - m) m b - 1 - a) a l
    else if b - m = 1 then mvL (m - bs (fun h => leO le l h m) (m - a) a m) m l
    else
      let mid := (a + b) / 2
      let n := mid + m
      let s := if m > mid then n - b else a
      let r := if m > mid then mid else m
      let st := bs (fun c => leO le l c (n - 1 - c)) (r - s) s r
      let en := n - st
      let l1 := if st < m ∧ m < en then rotG m (en - st) (m - st) (en - m) l else l
      let l2 := if a < st ∧ st < mid then symF f a st mid l1 else l1
      if mid < en ∧ en < b then symF f mid en b l2 else l2
theorem sorted_get {le : α → α → Bool} (hr : ∀ x, le x x = true) {X : List α} (hX : X.Pairwise fun x y => le x y = true) {i j : Nat} {x y : α} (hi : X[i]? = some x) (hj : X[j]? = some y) (hij : i ≤ j) : le x y = true := by
  rcases Nat.lt_or_eq_of_le hij with h | h
  · obtain ⟨h1, rfl⟩ := List.getElem?_eq_some_iff.1 hi
    obtain ⟨h2, rfl⟩ := List.getElem?_eq_some_iff.1 hj
    exact List.pairwise_iff_getElem.1 hX i j h1 h2 h
  · subst h
    rw [hi] at hj; cases hj; exact hr _
theorem merge_nil_left (Y : List α) : List.merge [] Y le = Y := by simp
theorem merge_nil_right (X : List α) : List.merge X [] le = X := by simp
theorem merge_len (X Y : List α) : (List.merge X Y le).length = X.length + Y.length := by
  rw [(List.merge_perm_append (le := le) (xs := X) (ys := Y)).length_eq, List.length_append]
theorem symF_spec (hr : ∀ x, le x x = true) (ht : ∀ x y z, le x y = true → le y z = true → le x z = true) : ∀ (f : Nat) (P X Y Q : List α), X ≠ [] → Y ≠ [] → X.Pairwise (fun x y => le x y = true) → Y.Pairwise (fun x y => le x y = true) → X.length + Y.length ≤ f →
    symF le f P.length (P.length + X.length) (P.length + X.length + Y.length) (P ++ (X ++ (Y ++ Q))) = P ++ (List.merge X Y le ++ Q)
  | 0, P, X, Y, Q, hX, hY, sX, sY, hf => by
    have := List.length_pos_iff.2 hX; omega
  | f + 1, P, X, Y, Q, hX, hY, sX, sY, hf => by
    have lX := List.length_pos_iff.2 hX
    have lY := List.length_pos_iff.2 hY
    have gX : ∀ i, i < X.length → (P ++ (X ++ (Y ++ Q)))[P.length + i]? = X[i]? := fun i hi => by
      rw [List.getElem?_append_right (by omega), show P.length + i - P.length = i by omega, List.getElem?_append_left hi]
    have gY : ∀ i, i < Y.length → (P ++ (X ++ (Y ++ Q)))[P.length + X.length + i]? = Y[i]? := fun i hi => by
      rw [List.getElem?_append_right (by omega), show P.length + X.length + i - P.length = X.length + i by omega, List.getElem?_append_right (by omega), show X.length + i - X.length = i by omega, List.getElem?_append_left hi]
    have q0 : ∀ i j x y, X[i]? = some x → Y[j]? = some y → leO le (P ++ (X ++ (Y ++ Q))) (P.length + i) (P.length + X.length + j) = le x y := fun i j x y hi hj => by
      have h1 := gX i (List.getElem?_eq_some_iff.1 hi).1
      have h2 := gY j (List.getElem?_eq_some_iff.1 hj).1
      unfold leO
      rw [h1, h2, hi, hj]
    unfold symF
    by_cases e1 : X.length = 1
    · rw [if_pos (by omega)]
      obtain ⟨x, rfl⟩ := List.length_eq_one_iff.1 e1
      have qv : ∀ h y, P.length + 1 ≤ h → Y[h - (P.length + 1)]? = some y → leO le (P ++ ([x] ++ (Y ++ Q))) P.length h = le x y := fun h y h1 h2 => by
        have := q0 0 (h - (P.length + 1)) x y rfl h2
        rw [show P.length + [x].length + (h - (P.length + 1)) = h by simp; omega] at this
        exact this
      have bsp := bs_spec (fun h => !leO le (P ++ ([x] ++ (Y ++ Q))) P.length h) (P.length + [x].length + Y.length - (P.length + [x].length)) (P.length + [x].length) (P.length + [x].length + Y.length) (Nat.le_refl _) (by omega) (fun c d h1 h2 h3 h4 => by
        simp only [List.length_singleton] at h1 h3
        have cl : c - (P.length + 1) < Y.length := by omega
        have dl : d - (P.length + 1) < Y.length := by omega
        have v1 := qv c _ h1 (List.getElem?_eq_getElem cl)
        have v2 := qv d _ (by omega) (List.getElem?_eq_getElem dl)
        have h4 : (!leO le (P ++ ([x] ++ (Y ++ Q))) P.length d) = true := h4
        show (!leO le (P ++ ([x] ++ (Y ++ Q))) P.length c) = true
        rw [v2] at h4
        rw [v1]
        have k := sorted_get hr sY (List.getElem?_eq_getElem cl) (List.getElem?_eq_getElem dl) (by omega)
        cases hle : le x Y[c - (P.length + 1)] with
        | false => rfl
        | true => rw [ht _ _ _ hle k] at h4; cases h4)
      generalize bs (fun h => !leO le (P ++ ([x] ++ (Y ++ Q))) P.length h) (P.length + [x].length + Y.length - (P.length + [x].length)) (P.length + [x].length) (P.length + [x].length + Y.length) = i at bsp ⊢
      simp only [List.length_singleton] at bsp
      obtain ⟨b1, b2, b3, b4⟩ := bsp
      obtain ⟨Y1, Y2, hYe, hY1⟩ : ∃ Y1 Y2, Y = Y1 ++ Y2 ∧ Y1.length = i - (P.length + 1) := ⟨Y.take (i - (P.length + 1)), Y.drop (i - (P.length + 1)), (List.take_append_drop _ Y).symm, by simp; omega⟩
      have lY2 : Y1.length + Y2.length = Y.length := by rw [hYe]; simp
      have d1 : ∀ y ∈ Y1, le x y = false := fun y hy => by
        obtain ⟨j, hj, ej⟩ := List.getElem_of_mem hy
        have g : Y[j]? = some y := by rw [hYe, List.getElem?_append_left hj, ← ej]; exact List.getElem?_eq_getElem hj
        have v := qv (P.length + 1 + j) y (by omega) (by rw [show P.length + 1 + j - (P.length + 1) = j by omega]; exact g)
        have h : (!leO le (P ++ ([x] ++ (Y ++ Q))) P.length (P.length + 1 + j)) = true := b3 (P.length + 1 + j) (by omega) (by omega)
        rw [v] at h
        simpa using h
      have d2 : ∀ y ∈ Y2, le x y = true := fun y hy => by
        obtain ⟨j, hj, ej⟩ := List.getElem_of_mem hy
        have g : Y[Y1.length + j]? = some y := by rw [hYe, List.getElem?_append_right (by omega), show Y1.length + j - Y1.length = j by omega, ← ej]; exact List.getElem?_eq_getElem hj
        have v := qv (P.length + 1 + (Y1.length + j)) y (by omega) (by rw [show P.length + 1 + (Y1.length + j) - (P.length + 1) = Y1.length + j by omega]; exact g)
        have h : (!leO le (P ++ ([x] ++ (Y ++ Q))) P.length (P.length + 1 + (Y1.length + j))) = false := b4 (P.length + 1 + (Y1.length + j)) (by omega) (by omega)
        rw [v] at h
        simpa using h
      have hm := merge_one_left le x Y1 Y2 d1 d2
      have hv := mvR_spec (i - 1 - P.length) P Y1 (Y2 ++ Q) x (by omega)
      rw [hYe, hm]
      simp only [List.append_assoc, List.cons_append, List.nil_append] at hv ⊢
      exact hv
    · rw [if_neg (by omega)]
      by_cases e2 : Y.length = 1
      · rw [if_pos (by omega)]
        obtain ⟨y, rfl⟩ := List.length_eq_one_iff.1 e2
        have qv : ∀ h x, P.length ≤ h → X[h - P.length]? = some x → leO le (P ++ (X ++ ([y] ++ Q))) h (P.length + X.length) = le x y := fun h x h1 h2 => by
          have := q0 (h - P.length) 0 x y h2 rfl
          rw [show P.length + (h - P.length) = h by omega] at this
          exact this
        have bsp := bs_spec (fun h => leO le (P ++ (X ++ ([y] ++ Q))) h (P.length + X.length)) (P.length + X.length - P.length) P.length (P.length + X.length) (Nat.le_refl _) (by omega) (fun c d h1 h2 h3 h4 => by
          have cl : c - P.length < X.length := by omega
          have dl : d - P.length < X.length := by omega
          have v1 := qv c _ h1 (List.getElem?_eq_getElem cl)
          have v2 := qv d _ (by omega) (List.getElem?_eq_getElem dl)
          have h4 : leO le (P ++ (X ++ ([y] ++ Q))) d (P.length + X.length) = true := h4
          show leO le (P ++ (X ++ ([y] ++ Q))) c (P.length + X.length) = true
          rw [v2] at h4
          rw [v1]
          exact ht _ _ _ (sorted_get hr sX (List.getElem?_eq_getElem cl) (List.getElem?_eq_getElem dl) (by omega)) h4)
        generalize bs (fun h => leO le (P ++ (X ++ ([y] ++ Q))) h (P.length + X.length)) (P.length + X.length - P.length) P.length (P.length + X.length) = i at bsp ⊢
        obtain ⟨b1, b2, b3, b4⟩ := bsp
        obtain ⟨X1, X2, hXe, hX1⟩ : ∃ X1 X2, X = X1 ++ X2 ∧ X1.length = i - P.length := ⟨X.take (i - P.length), X.drop (i - P.length), (List.take_append_drop _ X).symm, by simp; omega⟩
        have lX2 : X1.length + X2.length = X.length := by rw [hXe]; simp
        have d1 : ∀ x ∈ X1, le x y = true := fun x hx => by
          obtain ⟨j, hj, ej⟩ := List.getElem_of_mem hx
          have g : X[j]? = some x := by rw [hXe, List.getElem?_append_left hj, ← ej]; exact List.getElem?_eq_getElem hj
          have v := qv (P.length + j) x (by omega) (by rw [show P.length + j - P.length = j by omega]; exact g)
          have h : leO le (P ++ (X ++ ([y] ++ Q))) (P.length + j) (P.length + X.length) = true := b3 (P.length + j) (by omega) (by omega)
          rw [v] at h; exact h
        have d2 : ∀ x ∈ X2, le x y = false := fun x hx => by
          obtain ⟨j, hj, ej⟩ := List.getElem_of_mem hx
          have g : X[X1.length + j]? = some x := by rw [hXe, List.getElem?_append_right (by omega), show X1.length + j - X1.length = j by omega, ← ej]; exact List.getElem?_eq_getElem hj
          have v := qv (P.length + (X1.length + j)) x (by omega) (by rw [show P.length + (X1.length + j) - P.length = X1.length + j by omega]; exact g)
          have h : leO le (P ++ (X ++ ([y] ++ Q))) (P.length + (X1.length + j)) (P.length + X.length) = false := b4 (P.length + (X1.length + j)) (by omega) (by omega)
          rw [v] at h; exact h
        have hm := merge_one_right le y X1 X2 d1 d2
        have hv := mvL_spec (P.length + X.length - i) (P ++ X1) X2 Q y (by omega)
        rw [List.length_append, show P.length + X1.length + (P.length + X.length - i) = P.length + X.length by omega] at hv
        generalize hN : P.length + X.length = N at hv ⊢
        rw [hXe, hm]
        simp only [List.append_assoc, List.cons_append, List.nil_append] at hv ⊢
        exact hv
      · rw [if_neg (by omega)]
        simp only
        generalize hmid : (P.length + (P.length + X.length + Y.length)) / 2 = mid
        generalize hs : (if P.length + X.length > mid then mid + (P.length + X.length) - (P.length + X.length + Y.length) else P.length) = s
        generalize hrr : (if P.length + X.length > mid then mid else P.length + X.length) = r
        have hsr : s ≤ r ∧ P.length ≤ s ∧ r ≤ P.length + X.length ∧ r ≤ mid ∧ (s = P.length ∨ s + (P.length + X.length + Y.length) = mid + (P.length + X.length)) ∧ (r = mid ∨ r = P.length + X.length) ∧ mid + (P.length + X.length) ≤ s + (P.length + X.length + Y.length) := by
          rw [← hs, ← hrr]
          split <;> omega
        obtain ⟨s1, s2, s3, s4, s5, s6, s7⟩ := hsr
        have qv : ∀ c x y, P.length ≤ c → c < P.length + X.length → X[c - P.length]? = some x → Y[mid - 1 - c]? = some y → c < mid → leO le (P ++ (X ++ (Y ++ Q))) c (mid + (P.length + X.length) - 1 - c) = le x y := fun c x y h1 h2 h3 h4 h5 => by
          have := q0 (c - P.length) (mid - 1 - c) x y h3 h4
          rw [show P.length + (c - P.length) = c by omega, show P.length + X.length + (mid - 1 - c) = mid + (P.length + X.length) - 1 - c by omega] at this
          exact this
        have bsp := bs_spec (fun c => leO le (P ++ (X ++ (Y ++ Q))) c (mid + (P.length + X.length) - 1 - c)) (r - s) s r (Nat.le_refl _) s1 (fun c d h1 h2 h3 h4 => by
          have c1 : c - P.length < X.length := by omega
          have d1 : d - P.length < X.length := by omega
          have c2 : mid - 1 - c < Y.length := by omega
          have d2 : mid - 1 - d < Y.length := by omega
          have v1 := qv c _ _ (by omega) (by omega) (List.getElem?_eq_getElem c1) (List.getElem?_eq_getElem c2) (by omega)
          have v2 := qv d _ _ (by omega) (by omega) (List.getElem?_eq_getElem d1) (List.getElem?_eq_getElem d2) (by omega)
          have h4 : leO le (P ++ (X ++ (Y ++ Q))) d (mid + (P.length + X.length) - 1 - d) = true := h4
          show leO le (P ++ (X ++ (Y ++ Q))) c (mid + (P.length + X.length) - 1 - c) = true
          rw [v2] at h4
          rw [v1]
          have k1 := sorted_get hr sX (List.getElem?_eq_getElem c1) (List.getElem?_eq_getElem d1) (by omega)
          have k2 := sorted_get hr sY (List.getElem?_eq_getElem d2) (List.getElem?_eq_getElem c2) (by omega)
          exact ht _ _ _ (ht _ _ _ k1 h4) k2)
        generalize bs (fun c => leO le (P ++ (X ++ (Y ++ Q))) c (mid + (P.length + X.length) - 1 - c)) (r - s) s r = st at bsp ⊢
        obtain ⟨b1, b2, b3, b4⟩ := bsp
        obtain ⟨X1, X2, hXe, hX1⟩ : ∃ X1 X2, X = X1 ++ X2 ∧ X1.length = st - P.length := ⟨X.take (st - P.length), X.drop (st - P.length), (List.take_append_drop _ X).symm, by simp; omega⟩
        obtain ⟨Y1, Y2, hYe, hY1⟩ : ∃ Y1 Y2, Y = Y1 ++ Y2 ∧ Y1.length = mid - st := ⟨Y.take (mid - st), Y.drop (mid - st), (List.take_append_drop _ Y).symm, by simp; omega⟩
        have lX2 : X1.length + X2.length = X.length := by rw [hXe]; simp
        have lY2 : Y1.length + Y2.length = Y.length := by rw [hYe]; simp
        have getX2 : ∀ i x, X2[i]? = some x → X[st - P.length + i]? = some x := fun i x h => by
          rw [hXe, List.getElem?_append_right (by omega), show st - P.length + i - X1.length = i by omega]; exact h
        have getX1 : ∀ i x, X1[i]? = some x → X[i]? = some x := fun i x h => by
          have := (List.getElem?_eq_some_iff.1 h).1
          rw [hXe, List.getElem?_append_left this]; exact h
        have getY2 : ∀ i x, Y2[i]? = some x → Y[mid - st + i]? = some x := fun i x h => by
          rw [hYe, List.getElem?_append_right (by omega), show mid - st + i - Y1.length = i by omega]; exact h
        have getY1 : ∀ i x, Y1[i]? = some x → Y[i]? = some x := fun i x h => by
          have := (List.getElem?_eq_some_iff.1 h).1
          rw [hYe, List.getElem?_append_left this]; exact h
        have c1 : ∀ x ∈ X2, ∀ y ∈ Y1, le x y = false := fun x hx y hy => by
          obtain ⟨i, hi, ei⟩ := List.getElem_of_mem hx
          obtain ⟨j, hj, ej⟩ := List.getElem_of_mem hy
          have gi := getX2 i x (by rw [← ei]; exact List.getElem?_eq_getElem hi)
          have gj := getY1 j y (by rw [← ej]; exact List.getElem?_eq_getElem hj)
          have h1 : st - P.length < X.length := by omega
          have h2 : mid - 1 - st < Y.length := by omega
          have hq := b4 st (Nat.le_refl _) (by omega)
          have v := qv st _ _ (by omega) (by omega) (List.getElem?_eq_getElem h1) (List.getElem?_eq_getElem h2) (by omega)
          have hq : leO le (P ++ (X ++ (Y ++ Q))) st (mid + (P.length + X.length) - 1 - st) = false := hq
          rw [v] at hq
          cases hle : le x y with
          | false => rfl
          | true =>
            have k1 := sorted_get hr sX (List.getElem?_eq_getElem h1) gi (by omega)
            have k2 := sorted_get hr sY gj (List.getElem?_eq_getElem h2) (by omega)
            rw [ht _ _ _ (ht _ _ _ k1 hle) k2] at hq; cases hq
        have c2 : ∀ x ∈ X1, ∀ y ∈ Y2, le x y = true := fun x hx y hy => by
          obtain ⟨i, hi, ei⟩ := List.getElem_of_mem hx
          obtain ⟨j, hj, ej⟩ := List.getElem_of_mem hy
          have gi := getX1 i x (by rw [← ei]; exact List.getElem?_eq_getElem hi)
          have gj := getY2 j y (by rw [← ej]; exact List.getElem?_eq_getElem hj)
          have h1 : st - 1 - P.length < X.length := by omega
          have h2 : mid - 1 - (st - 1) < Y.length := by omega
          have hq := b3 (st - 1) (by omega) (by omega)
          have v := qv (st - 1) _ _ (by omega) (by omega) (List.getElem?_eq_getElem h1) (List.getElem?_eq_getElem h2) (by omega)
          have hq : leO le (P ++ (X ++ (Y ++ Q))) (st - 1) (mid + (P.length + X.length) - 1 - (st - 1)) = true := hq
          rw [v] at hq
          have k1 := sorted_get hr sX gi (List.getElem?_eq_getElem h1) (by omega)
          have k2 := sorted_get hr sY (List.getElem?_eq_getElem h2) gj (by omega)
          exact ht _ _ _ (ht _ _ _ k1 hq) k2
        have hsplit := merge_split le _ X1 X2 Y1 Y2 rfl c1 c2
        have sX1 : X1.Pairwise fun x y => le x y = true := (List.pairwise_append.1 (hXe ▸ sX)).1
        have sX2 : X2.Pairwise fun x y => le x y = true := (List.pairwise_append.1 (hXe ▸ sX)).2.1
        have sY1 : Y1.Pairwise fun x y => le x y = true := (List.pairwise_append.1 (hYe ▸ sY)).1
        have sY2 : Y2.Pairwise fun x y => le x y = true := (List.pairwise_append.1 (hYe ▸ sY)).2.1
        have l1 : (if st < P.length + X.length ∧ P.length + X.length < mid + (P.length + X.length) - st then rotG (P.length + X.length) (mid + (P.length + X.length) - st - st) (P.length + X.length - st) (mid + (P.length + X.length) - st - (P.length + X.length)) (P ++ (X ++ (Y ++ Q))) else P ++ (X ++ (Y ++ Q))) = P ++ (X1 ++ (Y1 ++ (X2 ++ (Y2 ++ Q)))) := by
          by_cases hc : st < P.length + X.length ∧ P.length + X.length < mid + (P.length + X.length) - st
          · rw [if_pos hc]
            have h := rotG_spec (mid + (P.length + X.length) - st - st) (P.length + X.length - st) (mid + (P.length + X.length) - st - (P.length + X.length)) (P ++ X1) X2 Y1 (Y2 ++ Q) (by omega) (by omega) (by omega) (by omega) (by omega)
            rw [List.length_append, show P.length + X1.length + (P.length + X.length - st) = P.length + X.length by omega] at h
            simp only [List.append_assoc] at h
            have e : P ++ (X ++ (Y ++ Q)) = P ++ (X1 ++ (X2 ++ (Y1 ++ (Y2 ++ Q)))) := by rw [hXe, hYe]; simp
            rw [e, h]
          · rw [if_neg hc]
            rw [hXe, hYe]
            have : X2 = [] ∨ Y1 = [] := by
              by_cases h1 : st < P.length + X.length
              · right; apply List.length_eq_zero_iff.1; omega
              · left; apply List.length_eq_zero_iff.1; omega
            rcases this with h | h <;> subst h <;> simp
        rw [l1]
        have l2 : (if P.length < st ∧ st < mid then symF le f P.length st mid (P ++ (X1 ++ (Y1 ++ (X2 ++ (Y2 ++ Q))))) else P ++ (X1 ++ (Y1 ++ (X2 ++ (Y2 ++ Q))))) = P ++ (List.merge X1 Y1 le ++ (X2 ++ (Y2 ++ Q))) := by
          by_cases hc : P.length < st ∧ st < mid
          · rw [if_pos hc]
            have h := symF_spec hr ht f P X1 Y1 (X2 ++ (Y2 ++ Q)) (fun e => by rw [e] at hX1; simp at hX1; omega) (fun e => by rw [e] at hY1; simp at hY1; omega) sX1 sY1 (by omega)
            rw [show P.length + X1.length = st by omega, show st + Y1.length = mid by omega] at h
            exact h
          · rw [if_neg hc]
            have : X1 = [] ∨ Y1 = [] := by
              by_cases h1 : P.length < st
              · right; apply List.length_eq_zero_iff.1; omega
              · left; apply List.length_eq_zero_iff.1; omega
            rcases this with h | h <;> subst h <;> simp
        rw [l2]
        have l3 : (if mid < mid + (P.length + X.length) - st ∧ mid + (P.length + X.length) - st < P.length + X.length + Y.length then symF le f mid (mid + (P.length + X.length) - st) (P.length + X.length + Y.length) (P ++ (List.merge X1 Y1 le ++ (X2 ++ (Y2 ++ Q)))) else P ++ (List.merge X1 Y1 le ++ (X2 ++ (Y2 ++ Q)))) = P ++ (List.merge X1 Y1 le ++ (List.merge X2 Y2 le ++ Q)) := by
          by_cases hc : mid < mid + (P.length + X.length) - st ∧ mid + (P.length + X.length) - st < P.length + X.length + Y.length
          · rw [if_pos hc]
            have h := symF_spec hr ht f (P ++ List.merge X1 Y1 le) X2 Y2 Q (fun e => by rw [e] at lX2; simp at lX2; omega) (fun e => by rw [e] at lY2; simp at lY2; omega) sX2 sY2 (by omega)
            rw [List.length_append, merge_len, show P.length + (X1.length + Y1.length) = mid by omega, show mid + X2.length = mid + (P.length + X.length) - st by omega, show mid + (P.length + X.length) - st + Y2.length = P.length + X.length + Y.length by omega] at h
            simp only [List.append_assoc] at h
            exact h
          · rw [if_neg hc]
            have : X2 = [] ∨ Y2 = [] := by
              by_cases h1 : mid < mid + (P.length + X.length) - st
              · right; apply List.length_eq_zero_iff.1; omega
              · left; apply List.length_eq_zero_iff.1; omega
            rcases this with h | h <;> subst h <;> simp
        rw [l3, hXe, hYe, hsplit, List.append_assoc]
def insD : Nat → Nat → List α → List α
  | 0, _, l => l
  | n + 1, k, l => if leO le l (k - 1) k then l else insD n (k - 1) (sw l k (k - 1))
theorem insD_spec (hr : ∀ x, le x x = true) (ht : ∀ x y z, le x y = true → le y z = true → le x z = true) : ∀ (n : Nat) (P X Q : List α) (y : α), X.length = n → X.Pairwise (fun x y => le x y = true) →
    insD le n (P.length + n) (P ++ (X ++ y :: Q)) = P ++ (List.merge X [y] le ++ Q)
  | 0, P, X, Q, y, h, sX => by
    have h1 : X = [] := List.length_eq_zero_iff.1 h
    subst h1
    unfold insD
    simp
  | n + 1, P, X, Q, y, h, sX => by
    obtain ⟨X', x, rfl⟩ : ∃ X' x, X = X' ++ [x] := ⟨X.dropLast, X.getLast (by intro e; subst e; simp at h), (List.dropLast_concat_getLast _).symm⟩
    have hX : X'.length = n := by simpa using h
    have sX' := (List.pairwise_append.1 sX).1
    have g1 : (P ++ (X' ++ [x] ++ y :: Q))[P.length + (n + 1) - 1]? = some x := by
      rw [List.getElem?_append_right (by omega), show P.length + (n + 1) - 1 - P.length = X'.length by omega]; simp
    have g2 : (P ++ (X' ++ [x] ++ y :: Q))[P.length + (n + 1)]? = some y := by
      rw [List.getElem?_append_right (by omega), show P.length + (n + 1) - P.length = (X' ++ [x]).length by simp; omega, List.getElem?_append_right (Nat.le_refl _)]; simp
    have hv : leO le (P ++ (X' ++ [x] ++ y :: Q)) (P.length + (n + 1) - 1) (P.length + (n + 1)) = le x y := by
      unfold leO; rw [g1, g2]
    unfold insD
    rw [hv]
    by_cases hle : le x y = true
    · rw [if_pos hle]
      have hall : ∀ z ∈ X' ++ [x], le z y = true := fun z hz => by
        rcases List.mem_append.1 hz with h1 | h1
        · exact ht _ _ _ ((List.pairwise_append.1 sX).2.2 z h1 x (by simp)) hle
        · simp at h1; subst h1; exact hle
      have hm := merge_one_right le y (X' ++ [x]) [] hall (fun z hz => by simp at hz)
      rw [List.append_nil] at hm
      rw [hm]; simp
    · rw [if_neg hle]
      have e := sw_at' (P ++ X') [] Q x y
      simp only [List.nil_append, List.length_nil, Nat.add_zero, List.length_append, List.append_assoc, hX] at e
      have ih := insD_spec hr ht n P X' (x :: Q) y hX sX'
      have hm := merge_split le _ X' [x] [y] [] rfl (fun a ha b hb => by simp at ha hb; subst ha; subst hb; simpa using hle) (fun a ha b hb => by simp at hb)
      rw [List.append_nil, merge_nil_right] at hm
      rw [hm, show P.length + (n + 1) - 1 = P.length + n by omega, show P.length + (n + 1) = P.length + n + 1 by omega]
      simp only [List.append_assoc, List.cons_append, List.nil_append] at ih ⊢
      rw [e]
      exact ih
def insG : Nat → Nat → Nat → List α → List α
  | 0, _, _, l => l
  | n + 1, a, i, l => insG n a (i + 1) (insD le (i - a) i l)
def isortF (X Z : List α) : List α := Z.foldl (fun acc y => List.merge acc [y] le) X
theorem merge_sorted (hr : ∀ x y, le x y = true ∨ le y x = true) (ht : ∀ x y z, le x y = true → le y z = true → le x z = true) {X Y : List α} (sX : X.Pairwise fun x y => le x y = true) (sY : Y.Pairwise fun x y => le x y = true) :
    (List.merge X Y le).Pairwise fun x y => le x y = true :=
  List.pairwise_merge (le := le) (fun a b c h1 h2 => ht a b c h1 h2) (fun a b => by rcases hr a b with h | h <;> simp [h]) X Y sX sY
theorem insG_spec (hr : ∀ x y, le x y = true ∨ le y x = true) (ht : ∀ x y z, le x y = true → le y z = true → le x z = true) : ∀ (n : Nat) (P X Z Q : List α), Z.length = n → X.Pairwise (fun x y => le x y = true) →
    insG le n P.length (P.length + X.length) (P ++ (X ++ (Z ++ Q))) = P ++ (isortF le X Z ++ Q)
  | 0, P, X, Z, Q, h, sX => by
    have h1 : Z = [] := List.length_eq_zero_iff.1 h
    subst h1; rfl
  | n + 1, P, X, [], Q, h, sX => by simp at h
  | n + 1, P, X, y :: Z, Q, h, sX => by
    have hr' : ∀ x, le x x = true := fun x => by rcases hr x x with h | h <;> exact h
    have h1 := insD_spec le hr' ht X.length P X (Z ++ Q) y rfl sX
    have ih := insG_spec hr ht n P (List.merge X [y] le) Z Q (by simpa using h) (merge_sorted le hr ht sX (by simp))
    unfold insG
    rw [show P.length + X.length - P.length = X.length by omega, List.cons_append, h1]
    rw [merge_len] at ih
    exact ih
abbrev Srt (l : List α) : Prop := l.Pairwise fun x y => le x y = true
inductive ChS (s : Nat) : List α → Prop
  | last (l : List α) (h : l.length ≤ s) (o : Srt le l) : ChS s l
  | cons (x l : List α) (h : x.length = s) (o : Srt le x) (k : ChS s l) : ChS s (x ++ l)
def eqk (k y : α) : Bool := le k y && le y k
theorem merge_filter (hr : ∀ x y, le x y = true ∨ le y x = true) (ht : ∀ x y z, le x y = true → le y z = true → le x z = true) (k : α) : ∀ (X Y : List α), Srt le X → (List.merge X Y le).filter (eqk le k) = X.filter (eqk le k) ++ Y.filter (eqk le k)
  | [], Y, _ => by simp
  | x :: X, [], _ => by simp
  | x :: X, y :: Y, h => by
    have h2 := List.pairwise_cons.1 h
    rw [List.cons_merge_cons]
    cases hxy : le x y with
    | true =>
      rw [if_pos rfl, List.filter_cons, List.filter_cons (xs := X), merge_filter hr ht k X (y :: Y) h2.2]
      split <;> rfl
    | false =>
      rw [if_neg (by simp), List.filter_cons, List.filter_cons (xs := Y), merge_filter hr ht k (x :: X) Y h]
      cases hp : eqk le k y with
      | false => simp
      | true =>
        have e : (x :: X).filter (eqk le k) = [] := by
          refine List.filter_eq_nil_iff.2 fun z hz hk => ?_
          simp only [eqk, Bool.and_eq_true] at hp hk
          have hxz : le x z = true := by
            rcases List.mem_cons.1 hz with rfl | hz
            · rcases hr z z with h | h <;> exact h
            · exact h2.1 z hz
          have := ht _ _ _ hxz (ht _ _ _ hk.2 hp.1)
          rw [hxy] at this; cases this
        rw [e]; simp
structure Keeps (l l' : List α) : Prop where
  perm : l'.Perm l
  same : Srt le l → l' = l
  filt : ∀ k, l'.filter (eqk le k) = l.filter (eqk le k)
theorem Keeps.refl (l : List α) : Keeps le l l := ⟨List.Perm.refl _, fun _ => rfl, fun _ => rfl⟩
theorem Keeps.trans {a b c : List α} (h : Keeps le a b) (k : Keeps le b c) : Keeps le a c := ⟨k.perm.trans h.perm, fun o => by
  have e := h.same o
  rw [e] at k
  rw [k.same o], fun q => (k.filt q).trans (h.filt q)⟩
theorem Keeps.front {a b : List α} (x : List α) (h : Keeps le a b) : Keeps le (x ++ a) (x ++ b) := ⟨h.perm.append_left x, fun o => by rw [h.same (List.pairwise_append.1 o).2.1], fun k => by rw [List.filter_append, List.filter_append, h.filt k]⟩
theorem Keeps.back {a b : List α} (x : List α) (h : Keeps le a b) : Keeps le (a ++ x) (b ++ x) := ⟨h.perm.append_right x, fun o => by rw [h.same (List.pairwise_append.1 o).1], fun k => by rw [List.filter_append, List.filter_append, h.filt k]⟩
theorem merge_keeps (hr : ∀ x y, le x y = true ∨ le y x = true) (ht : ∀ x y z, le x y = true → le y z = true → le x z = true) (X Y : List α) (h : Srt le X) : Keeps le (X ++ Y) (List.merge X Y le) :=
  ⟨List.merge_perm_append le, fun o => List.merge_of_le fun x y hx hy => (List.pairwise_append.1 o).2.2 x hx y hy, fun k => by rw [merge_filter le hr ht k X Y h, List.filter_append]⟩
def pass (s n : Nat) : Nat → Nat → List α → List α
  | 0, _, l => l
  | f + 1, a, l => if a + 2 * s ≤ n then pass s n f (a + 2 * s) (symF le (2 * s) a (a + s) (a + 2 * s) l) else if a + s < n then symF le (n - a) a (a + s) n l else l
theorem pass_spec (hr : ∀ x y, le x y = true ∨ le y x = true) (ht : ∀ x y z, le x y = true → le y z = true → le x z = true) {s : Nat} (hs : 0 < s) : ∀ (f : Nat) (D R : List α) (n : Nat), ChS le s R → n = D.length + R.length → R.length < f →
    ∃ R', pass le s n f D.length (D ++ R) = D ++ R' ∧ ChS le (2 * s) R' ∧ Keeps le R R'
  | 0, D, R, n, h, hn, hf => by omega
  | f + 1, D, R, n, h, hn, hf => by
    have hr' : ∀ x, le x x = true := fun x => by rcases hr x x with h | h <;> exact h
    cases h with
    | last l h o =>
      unfold pass
      rw [if_neg (by omega), if_neg (by omega)]
      exact ⟨R, rfl, .last _ (by omega) o, Keeps.refl le R⟩
    | cons x l h o k =>
      have two : ∀ (y q : List α), y.length ≤ s → y ≠ [] → Srt le y → ∀ F, x.length + y.length ≤ F → symF le F D.length (D.length + s) (D.length + (x.length + y.length)) (D ++ (x ++ (y ++ q))) = D ++ (List.merge x y le ++ q) := fun y q h1 h2 h3 F hF => by
        have := symF_spec le hr' ht F D x y q (fun e => by rw [e] at h; simp at h; omega) h2 o h3 hF
        rw [h] at this ⊢
        rw [Nat.add_assoc] at this
        exact this
      cases k with
      | last _ h1 o1 =>
        unfold pass
        by_cases c1 : D.length + 2 * s ≤ n
        · rw [if_pos c1]
          simp only [List.length_append] at hn
          have hl : l.length = s := by omega
          have ht2 := two l [] h1 (fun e => by rw [e] at hl; simp at hl; omega) o1 (2 * s) (by omega)
          rw [List.append_nil, List.append_nil, show D.length + (x.length + l.length) = D.length + 2 * s by omega] at ht2
          rw [ht2]
          obtain ⟨R', e1, e2, e3⟩ := pass_spec hr ht hs f (D ++ List.merge x l le) [] n (.last _ (by simp) (by simp)) (by simp; omega) (by simp at hf; simp; omega)
          have e0 : R' = [] := by
            have := e3.perm.length_eq
            exact List.length_eq_zero_iff.1 (by simpa using this)
          subst e0
          rw [List.append_nil, List.length_append, merge_len, show D.length + (x.length + l.length) = D.length + 2 * s by omega] at e1
          refine ⟨List.merge x l le, e1, .last _ (by rw [merge_len]; omega) (merge_sorted le hr ht o o1), merge_keeps le hr ht x l o⟩
        · rw [if_neg c1]
          simp only [List.length_append] at hn
          by_cases c2 : D.length + s < n
          · rw [if_pos c2]
            have ht2 := two l [] h1 (fun e => by rw [e] at hn; simp at hn; omega) o1 (n - D.length) (by omega)
            rw [List.append_nil, List.append_nil, show D.length + (x.length + l.length) = n by omega] at ht2
            rw [ht2]
            exact ⟨List.merge x l le, rfl, .last _ (by rw [merge_len]; omega) (merge_sorted le hr ht o o1), merge_keeps le hr ht x l o⟩
          · rw [if_neg c2]
            have hl : l = [] := List.length_eq_zero_iff.1 (by omega)
            subst hl
            rw [List.append_nil]
            exact ⟨x, rfl, .last _ (by omega) o, Keeps.refl le x⟩
      | cons y q h1 o1 k1 =>
        unfold pass
        simp only [List.length_append] at hn hf
        rw [if_pos (by omega)]
        have ht2 := two y q (by omega) (fun e => by rw [e] at h1; simp at h1; omega) o1 (2 * s) (by omega)
        rw [show D.length + (x.length + y.length) = D.length + 2 * s by omega] at ht2
        rw [ht2]
        obtain ⟨R', e1, e2, e3⟩ := pass_spec hr ht hs f (D ++ List.merge x y le) q n k1 (by simp; omega) (by omega)
        rw [List.length_append, merge_len, show D.length + (x.length + y.length) = D.length + 2 * s by omega, List.append_assoc] at e1
        refine ⟨List.merge x y le ++ R', by rw [e1, List.append_assoc], .cons _ _ (by rw [merge_len]; omega) (merge_sorted le hr ht o o1) e2, ?_⟩
        have m1 := (merge_keeps le hr ht x y o).back le q
        rw [List.append_assoc] at m1
        exact m1.trans le (e3.front le _)
def insB (a b : Nat) (l : List α) : List α := insG le (b - (a + 1)) a (a + 1) l
theorem isortF_spec (hr : ∀ x y, le x y = true ∨ le y x = true) (ht : ∀ x y z, le x y = true → le y z = true → le x z = true) : ∀ (Z X : List α), Srt le X → Srt le (isortF le X Z) ∧ Keeps le (X ++ Z) (isortF le X Z)
  | [], X, h => ⟨h, by rw [List.append_nil]; exact Keeps.refl le X⟩
  | y :: Z, X, h => by
    obtain ⟨h1, h2⟩ := isortF_spec hr ht Z (List.merge X [y] le) (merge_sorted le hr ht h (by simp))
    refine ⟨h1, ?_⟩
    have k := (merge_keeps le hr ht X [y] h).back le Z
    rw [List.append_assoc] at k
    exact k.trans le h2
theorem insB_spec (hr : ∀ x y, le x y = true ∨ le y x = true) (ht : ∀ x y z, le x y = true → le y z = true → le x z = true) (P Z Q : List α) : ∃ Z', insB le P.length (P.length + Z.length) (P ++ (Z ++ Q)) = P ++ (Z' ++ Q) ∧ Srt le Z' ∧ Keeps le Z Z' := by
  cases Z with
  | nil => exact ⟨[], by unfold insB; rw [show P.length + ([] : List α).length - (P.length + 1) = 0 by simp]; rfl, by simp, Keeps.refl le _⟩
  | cons z Z =>
    have h := insG_spec le hr ht Z.length P [z] Z Q rfl (by simp)
    obtain ⟨h1, h2⟩ := isortF_spec le hr ht Z [z] (by simp)
    refine ⟨isortF le [z] Z, ?_, h1, h2⟩
    unfold insB
    rw [show P.length + (z :: Z).length - (P.length + 1) = Z.length by simp; omega]
    exact h
def blk1 (n : Nat) : Nat → Nat → List α → List α
  | 0, _, l => l
  | f + 1, a, l => if a + 20 ≤ n then blk1 n f (a + 20) (insB le a (a + 20) l) else insB le a n l
theorem blk1_spec (hr : ∀ x y, le x y = true ∨ le y x = true) (ht : ∀ x y z, le x y = true → le y z = true → le x z = true) : ∀ (f : Nat) (D R : List α) (n : Nat), n = D.length + R.length → R.length < f →
    ∃ R', blk1 le n f D.length (D ++ R) = D ++ R' ∧ ChS le 20 R' ∧ Keeps le R R'
  | 0, D, R, n, hn, hf => by omega
  | f + 1, D, R, n, hn, hf => by
    unfold blk1
    by_cases c : D.length + 20 ≤ n
    · rw [if_pos c]
      obtain ⟨Z, Q, rfl, hZ⟩ : ∃ Z Q, R = Z ++ Q ∧ Z.length = 20 := ⟨R.take 20, R.drop 20, (List.take_append_drop 20 R).symm, by simp; omega⟩
      simp only [List.length_append] at hn hf
      obtain ⟨Z', e1, e2, e3⟩ := insB_spec le hr ht D Z Q
      rw [hZ] at e1
      have hZ' : Z'.length = 20 := by rw [e3.perm.length_eq, hZ]
      rw [e1]
      obtain ⟨R', k1, k2, k3⟩ := blk1_spec hr ht f (D ++ Z') Q n (by simp; omega) (by omega)
      rw [List.length_append, hZ', List.append_assoc] at k1
      refine ⟨Z' ++ R', by rw [k1, List.append_assoc], .cons _ _ hZ' e2 k2, (e3.back le Q).trans le (k3.front le Z')⟩
    · rw [if_neg c]
      obtain ⟨Z', e1, e2, e3⟩ := insB_spec le hr ht D R []
      rw [List.append_nil, List.append_nil, ← hn] at e1
      exact ⟨Z', e1, .last _ (by rw [e3.perm.length_eq]; omega) e2, e3⟩
def stL (n : Nat) : Nat → Nat → List α → List α
  | 0, _, l => l
  | f + 1, s, l => if s < n then stL n f (2 * s) (pass le s n (n + 1) 0 l) else l
theorem chs_sorted {s : Nat} {l : List α} (h : ChS le s l) (hl : l.length ≤ s) : Srt le l := by
  cases h with
  | last _ h o => exact o
  | cons x q h o k =>
    have : q = [] := List.length_eq_zero_iff.1 (by simp at hl; omega)
    subst this
    rw [List.append_nil]; exact o
theorem stL_spec (hr : ∀ x y, le x y = true ∨ le y x = true) (ht : ∀ x y z, le x y = true → le y z = true → le x z = true) : ∀ (f s : Nat) (l : List α), 0 < s → ChS le s l → l.length < f + s → Srt le (stL le l.length f s l) ∧ Keeps le l (stL le l.length f s l)
  | 0, s, l, hs, h, hf => by
    show Srt le l ∧ Keeps le l l
    exact ⟨chs_sorted le h (by omega), Keeps.refl le l⟩
  | f + 1, s, l, hs, h, hf => by
    unfold stL
    by_cases c : s < l.length
    · rw [if_pos c]
      obtain ⟨R', e1, e2, e3⟩ := pass_spec le hr ht hs (l.length + 1) [] l l.length h (by simp) (by omega)
      simp only [List.length_nil, List.nil_append] at e1
      rw [e1]
      have hl := e3.perm.length_eq
      obtain ⟨k1, k2⟩ := stL_spec hr ht f (2 * s) R' (by omega) e2 (by omega)
      rw [hl] at k1 k2
      exact ⟨k1, e3.trans le k2⟩
    · rw [if_neg c]
      exact ⟨chs_sorted le h (by omega), Keeps.refl le l⟩
theorem stable_spec (hr : ∀ x y, le x y = true ∨ le y x = true) (ht : ∀ x y z, le x y = true → le y z = true → le x z = true) (l : List α) :
    Srt le (stL le l.length l.length 20 (blk1 le l.length (l.length + 1) 0 l)) ∧ Keeps le l (stL le l.length l.length 20 (blk1 le l.length (l.length + 1) 0 l)) := by
  obtain ⟨R', e1, e2, e3⟩ := blk1_spec le hr ht (l.length + 1) [] l l.length (by simp) (by omega)
  simp only [List.length_nil, List.nil_append] at e1
  rw [e1]
  have hl := e3.perm.length_eq
  obtain ⟨k1, k2⟩ := stL_spec le hr ht l.length 20 R' (by omega) e2 (by omega)
  rw [hl] at k1 k2
  exact ⟨k1, e3.trans le k2⟩
end
end Go.Cf

namespace Go.Cf
open Go Go.Ab
set_option linter.unusedVariables false
set_option linter.unusedSimpArgs false
def keyR (at_ : Int) (r : List Val) : Int × Int := bif decide (at_ < 0) then (0, 0) else match r[at_.toNat]? with | some v => bif mayV v then (v.K, v.N) else (2, 0) | none => (0, 0)
theorem w_of (r : List Val) (at_ : Int) : wc W n_bag_of [rowp r, .int .i64 at_] = some (.agg [.int .i64 (keyR at_ r).1, .int .i64 (keyR at_ r).2]) := by
  have h := e_bag_of (r.map Val.pv) at_
  rw [rowp_fold] at h
  rw [h, List.length_map]
  unfold keyR
  by_cases h0 : at_ < 0
  · rw [decide_eq_true h0]; rfl
  · rw [decide_eq_false h0]
    simp only [cond_false]
    by_cases h1 : at_ ≥ (r.length : Int)
    · rw [decide_eq_true h1, List.getElem?_eq_none (by omega)]; rfl
    · have hlt : at_.toNat < r.length := by omega
      rw [decide_eq_false h1]
      simp only [cond_false, J_bag_of_1_eq, decide_eq_true (show (0 : Int) ≤ at_ by omega), cond_true, List.getElem?_map, List.getElem?_eq_getElem hlt, Option.map_some, Option.bind_some, Val.c_mk, Val.fold, w_val_May, c_b_mk, J_bag_of_2_eq]
      cases mayV r[at_.toNat] <;> rfl
def cmpB (a b : Int × Int) : Int := if a.1 < b.1 then -1 else if a.1 > b.1 then 1 else if a.2 < b.2 then -1 else if a.2 > b.2 then 1 else 0
theorem w_cmpI (a b : Int) : wc W n_cmp_Compare_int [.int .i64 a, .int .i64 b] = some (.int .i64 (if a < b then -1 else if a > b then 1 else 0)) := by
  rw [e_cmp_Compare_int, e_cmp_isNaN_int, e_cmp_isNaN_int, bne_f rfl, bne_f rfl]
  simp only [Option.bind_some, c_b_mk, cond_false]
  by_cases h : a < b
  · rw [decide_eq_true h, if_pos h]; rfl
  · rw [decide_eq_false h, if_neg h]
    by_cases h' : a > b
    · rw [decide_eq_true h', if_pos h']; rfl
    · rw [decide_eq_false h', if_neg h']; rfl
theorem w_compare (a b : Int × Int) : wc W n_bag_compare [.agg [.int .i64 a.1, .int .i64 a.2], .agg [.int .i64 b.1, .int .i64 b.2]] = some (.int .i64 (cmpB a b)) := by
  obtain ⟨a1, a2⟩ := a
  obtain ⟨b1, b2⟩ := b
  rw [e_bag_compare, e_slices_Compare_int_int]
  have z1 : ([PV.int .i64 a1, PV.int .i64 a2] : List PV).length = 2 := rfl
  have w1 : IntKind.wrap .i64 ((0 : Int) + 1) = 1 := by decide
  have w2 : IntKind.wrap .i64 ((1 : Int) + 1) = 2 := by decide
  unfold cmpB
  have f1 : decide ((0 : Int) < ((0 + 1 + 1 : Nat) : Int)) = true := rfl
  have f2 : decide ((1 : Int) < ((0 + 1 + 1 : Nat) : Int)) = true := rfl
  have f3 : decide ((2 : Int) < ((0 + 1 + 1 : Nat) : Int)) = false := rfl
  have f4 : decide ((0 : Int) ≤ 0) = true := rfl
  have f5 : decide ((0 : Int) ≤ 1) = true := rfl
  have f6 : decide ((0 : Int) ≥ ((0 + 1 + 1 : Nat) : Int)) = false := rfl
  have f7 : decide ((1 : Int) ≥ ((0 + 1 + 1 : Nat) : Int)) = false := rfl
  have f8 : decide (((0 + 1 + 1 : Nat) : Int) < ((0 + 1 + 1 : Nat) : Int)) = false := rfl
  have f9 : Int.toNat 0 = 0 := rfl
  have f10 : Int.toNat 1 = 1 := rfl
  rw [L_slices_Compare_int_int_1_eq]
  simp only [List.length_cons, List.length_nil, w1, w2, c_i64_mk, List.getElem?_cons_zero, List.getElem?_cons_succ, Option.bind_some, w_cmpI, c_b_mk, cond_true, cond_false, f1, f2, f3, f4, f5, f6, f7, f8, f9, f10]
  rw [L_slices_Compare_int_int_1_eq]
  simp only [List.length_cons, List.length_nil, w1, w2, c_i64_mk, List.getElem?_cons_zero, List.getElem?_cons_succ, Option.bind_some, w_cmpI, c_b_mk, cond_true, cond_false, f1, f2, f3, f4, f5, f6, f7, f8, f9, f10]
  rw [L_slices_Compare_int_int_1_eq]
  simp only [List.length_cons, List.length_nil, w1, w2, c_i64_mk, List.getElem?_cons_zero, List.getElem?_cons_succ, Option.bind_some, w_cmpI, c_b_mk, cond_true, cond_false, f1, f2, f3, f4, f5, f6, f7, f8, f9, f10]
  rcases Int.lt_trichotomy a1 b1 with h | h | h
  · rw [show (a1 == b1) = false by rw [beq_eq_false_iff_ne]; omega]; simp only [if_pos h]; rfl
  · subst h
    simp only [beq_self_eq_true, gt_iff_lt, Int.lt_irrefl, if_false, cond_true]
    rcases Int.lt_trichotomy a2 b2 with h | h | h
    · rw [show (a2 == b2) = false by rw [beq_eq_false_iff_ne]; omega, if_pos h]; rfl
    · subst h; simp only [beq_self_eq_true, Int.lt_irrefl, if_false]; rfl
    · rw [show (a2 == b2) = false by rw [beq_eq_false_iff_ne]; omega, if_neg (show ¬ a2 < b2 by omega), if_pos h]; rfl
  · rw [show (a1 == b1) = false by rw [beq_eq_false_iff_ne]; omega]; simp only [gt_iff_lt, if_neg (show ¬ a1 < b1 by omega), if_pos h]; rfl
def leR (at_ : Int) (r s : List Val) : Bool := !decide (cmpB (keyR at_ s) (keyR at_ r) < 0)
theorem cmpB_lt (a b : Int × Int) : cmpB a b < 0 ↔ a.1 < b.1 ∨ (a.1 = b.1 ∧ a.2 < b.2) := by
  unfold cmpB
  split
  · constructor <;> intro <;> omega
  · split
    · constructor <;> intro <;> omega
    · split
      · constructor <;> intro <;> omega
      · split <;> constructor <;> intro <;> omega
theorem leR_iff (at_ : Int) (r s : List Val) : leR at_ r s = true ↔ (keyR at_ r).1 < (keyR at_ s).1 ∨ ((keyR at_ r).1 = (keyR at_ s).1 ∧ (keyR at_ r).2 ≤ (keyR at_ s).2) := by
  unfold leR
  rw [Bool.not_eq_true', decide_eq_false_iff_not, cmpB_lt]
  constructor <;> intro <;> omega
theorem leR_total (at_ : Int) (r s : List Val) : leR at_ r s = true ∨ leR at_ s r = true := by
  rw [leR_iff, leR_iff]; omega
theorem leR_trans (at_ : Int) (r s t : List Val) (h : leR at_ r s = true) (k : leR at_ s t = true) : leR at_ r t = true := by
  rw [leR_iff] at *; omega
def varA (at_ : Int) : Ob := .var false 0 (.pv (.int .i64 at_))
theorem w_Sort2 (r s : List Val) (at_ : Int) : W n_bag_Sort_2 false [.pv (rowp r), .pv (rowp s), .own 0 0] [.var false 0 (.pv (.int .i64 at_))] = some (.pv (.int .i64 (cmpB (keyR at_ r) (keyR at_ s))), [.var false 0 (.pv (.int .i64 at_))]) := by
  have h := o_bag_Sort_2_o1_1 (r.map Val.pv) (s.map Val.pv) at_
  rw [rowp_fold, rowp_fold, w_of, w_of] at h
  have c := w_compare (keyR at_ r) (keyR at_ s)
  simp only [Option.bind_some, c_g_i64_i64_mk, c, c_i64_mk] at h
  exact h
theorem sw_len {α : Type} (l : List α) (i j : Nat) : (sw l i j).length = l.length := by
  unfold sw
  split
  · simp
  · rfl
theorem swapN_len {α : Type} : ∀ (n a b : Nat) (l : List α), (swapN n a b l).length = l.length
  | 0, _, _, _ => rfl
  | n + 1, a, b, l => by unfold swapN; rw [swapN_len n, sw_len]
theorem mvR_len {α : Type} : ∀ (n k : Nat) (l : List α), (mvR n k l).length = l.length
  | 0, _, _ => rfl
  | n + 1, k, l => by unfold mvR; rw [mvR_len n, sw_len]
theorem mvL_len {α : Type} : ∀ (n k : Nat) (l : List α), (mvL n k l).length = l.length
  | 0, _, _ => rfl
  | n + 1, k, l => by unfold mvL; rw [mvL_len n, sw_len]
theorem rotG_len {α : Type} (m : Nat) : ∀ (f i j : Nat) (l : List α), (rotG m f i j l).length = l.length
  | 0, _, _, _ => rfl
  | f + 1, i, j, l => by
    unfold rotG
    split
    · exact swapN_len _ _ _ _
    · split
      · rw [rotG_len m f, swapN_len]
      · rw [rotG_len m f, swapN_len]
theorem insD_len {α : Type} (le : α → α → Bool) : ∀ (n k : Nat) (l : List α), (insD le n k l).length = l.length
  | 0, _, _ => rfl
  | n + 1, k, l => by
    unfold insD
    split
    · rfl
    · rw [insD_len le n, sw_len]
theorem insG_len {α : Type} (le : α → α → Bool) : ∀ (n a i : Nat) (l : List α), (insG le n a i l).length = l.length
  | 0, _, _, _ => rfl
  | n + 1, a, i, l => by unfold insG; rw [insG_len le n, insD_len]
theorem ite_len {α : Type} {p : Prop} [Decidable p] {x y : List α} {n : Nat} (h : x.length = n) (k : y.length = n) : (if p then x else y).length = n := by split <;> assumption
def symS {α : Type} (le : α → α → Bool) (f a m b mid st en : Nat) (l : List α) : List α :=
  let l1 := if st < m ∧ m < en then rotG m (en - st) (m - st) (en - m) l else l
  let l2 := if a < st ∧ st < mid then symF le f a st mid l1 else l1
  if mid < en ∧ en < b then symF le f mid en b l2 else l2
theorem symF_succ {α : Type} (le : α → α → Bool) (f a m b : Nat) (l : List α) : symF le (f + 1) a m b l =
    if m - a = 1 then mvR (bs (fun h => !leO le l a h) (b - m) m b - 1 - a) a l
    else if b - m = 1 then mvL (m - bs (fun h => leO le l h m) (m - a) a m) m l
    else if m > (a + b) / 2 then
      symS le f a m b ((a + b) / 2) (bs (fun c => leO le l c ((a + b) / 2 + m - 1 - c)) ((a + b) / 2 - ((a + b) / 2 + m - b)) ((a + b) / 2 + m - b) ((a + b) / 2)) ((a + b) / 2 + m - bs (fun c => leO le l c ((a + b) / 2 + m - 1 - c)) ((a + b) / 2 - ((a + b) / 2 + m - b)) ((a + b) / 2 + m - b) ((a + b) / 2)) l
    else
      symS le f a m b ((a + b) / 2) (bs (fun c => leO le l c ((a + b) / 2 + m - 1 - c)) (m - a) a m) ((a + b) / 2 + m - bs (fun c => leO le l c ((a + b) / 2 + m - 1 - c)) (m - a) a m) l := by
  rw [symF]
  split
  · rfl
  · split
    · rfl
    · by_cases h : m > (a + b) / 2
      · simp only [if_pos h]; rfl
      · simp only [if_neg h]; rfl
theorem symF_len {α : Type} (le : α → α → Bool) : ∀ (f a m b : Nat) (l : List α), (symF le f a m b l).length = l.length
  | 0, _, _, _, _ => rfl
  | f + 1, a, m, b, l => by
    have hS : ∀ st en mid, (symS le f a m b mid st en l).length = l.length := fun st en mid => by
      have h1 : (if st < m ∧ m < en then rotG m (en - st) (m - st) (en - m) l else l).length = l.length := ite_len (rotG_len _ _ _ _ _) rfl
      unfold symS
      simp only
      generalize (if st < m ∧ m < en then rotG m (en - st) (m - st) (en - m) l else l) = l1 at h1
      have h2 : (if a < st ∧ st < mid then symF le f a st mid l1 else l1).length = l.length := ite_len ((symF_len le f _ _ _ _).trans h1) h1
      generalize (if a < st ∧ st < mid then symF le f a st mid l1 else l1) = l2 at h2
      exact ite_len ((symF_len le f _ _ _ _).trans h2) h2
    rw [symF_succ]
    exact ite_len (mvR_len _ _ _) (ite_len (mvL_len _ _ _) (ite_len (hS _ _ _) (hS _ _ _)))
theorem bs_le (q : Nat → Bool) : ∀ (f lo hi : Nat), lo ≤ hi → lo ≤ bs q f lo hi ∧ bs q f lo hi ≤ hi
  | 0, lo, hi, h => ⟨Nat.le_refl _, h⟩
  | f + 1, lo, hi, h => by
    unfold bs
    split
    · split
      · have := bs_le q f ((lo + hi) / 2 + 1) hi (by omega); omega
      · have := bs_le q f lo ((lo + hi) / 2) (by omega); omega
    · omega
theorem sw_map (l : List (List Val)) (i j : Nat) (hi : i < l.length) (hj : j < l.length) : ((l.map rowp).set i (rowp l[j])).set j (rowp l[i]) = (sw l i j).map rowp := by
  unfold sw
  rw [List.getElem?_eq_getElem hi, List.getElem?_eq_getElem hj]
  simp only [List.map_set]
def tells (l : List (List Val)) (at_ : Int) : Option (AV × List Ob) := some (.pv (.tup []), [.fix 0 0 (l.map rowp), .var false 0 (.pv (.int .i64 at_))])
theorem swap_loop (at_ : Int) (a b n : Nat) : ∀ (k i : Nat) (l : List (List Val)), i + k = n → a + n ≤ l.length → b + n ≤ l.length → l.length ≤ 1000000000 →
    L_slices_swapRangeCmpFunc_api_Val_o2_1 (a : Int) (b : Int) (n : Int) (i : Int) (l.map rowp) at_ = tells (swapN k (a + i) (b + i) l) at_
  | 0, i, l, h, ha, hb, hl => by
    rw [L_slices_swapRangeCmpFunc_api_Val_o2_1_eq, show i = n by omega]
    simp only [ge_len, cond_false]; rfl
  | k + 1, i, l, h, ha, hb, hl => by
    have h1 : a + i < l.length := by omega
    have h2 : b + i < l.length := by omega
    have e1 : IntKind.wrap .i64 ((a : Int) + (i : Int)) = ((a + i : Nat) : Int) := by rw [wrap64 (by omega) (by omega)]; omega
    have e2 : IntKind.wrap .i64 ((b : Int) + (i : Int)) = ((b + i : Nat) : Int) := by rw [wrap64 (by omega) (by omega)]; omega
    rw [L_slices_swapRangeCmpFunc_api_Val_o2_1_eq]
    simp only [lt_len (show i < n by omega), cond_true, e1, e2, nat_le, Bool.true_and, List.length_set, List.length_map, lt_len h1, lt_len h2, Int.toNat_natCast, List.getElem?_map, List.getElem?_eq_getElem h1, List.getElem?_eq_getElem h2, Option.map_some, Option.bind_some, c_rowp, rowp_fold]
    have h3 : b + i < ((l.map rowp).set (a + i) (rowp l[b + i])).length := by simpa using h2
    rw [List.getElem?_eq_getElem h3]
    simp only [Option.bind_some]
    rw [sw_map l (a + i) (b + i) h1 h2, wrap_succ (by omega)]
    exact swap_loop at_ a b n k (i + 1) (sw l (a + i) (b + i)) (by omega) (by rw [sw_len]; exact ha) (by rw [sw_len]; exact hb) (by rw [sw_len]; exact hl)
theorem w_swapRange (at_ : Int) (a b n : Nat) (l : List (List Val)) (ha : a + n ≤ l.length) (hb : b + n ≤ l.length) (hl : l.length ≤ 1000000000) :
    W n_slices_swapRangeCmpFunc_api_Val false [.fx 0 0, .pv (.int .i64 (a : Int)), .pv (.int .i64 (b : Int)), .pv (.int .i64 (n : Int)), .fnv n_bag_Sort_2 [] [.own 1 0]] [.fix 0 0 (l.map rowp), .var false 0 (.pv (.int .i64 at_))] = tells (swapN n a b l) at_ := by
  rw [o_slices_swapRangeCmpFunc_api_Val_o2_1]
  exact swap_loop at_ a b n n 0 l (by omega) ha hb hl
theorem rot_loop (at_ : Int) (m : Nat) : ∀ (f i j : Nat) (l : List (List Val)), 0 < i → 0 < j → i + j ≤ f → i ≤ m → m + j ≤ l.length → l.length ≤ 1000000000 →
    L_slices_rotateCmpFunc_api_Val_o2_1 (m : Int) (i : Int) (j : Int) (l.map rowp) at_ = tells (rotG m f i j l) at_
  | 0, i, j, l, hi, hj, hf, _, _, _ => by omega
  | f + 1, i, j, l, hi, hj, hf, him, hmj, hl => by
    have e1 : IntKind.wrap .i64 ((m : Int) - (i : Int)) = ((m - i : Nat) : Int) := by rw [wrap64 (by omega) (by omega)]; omega
    rw [L_slices_rotateCmpFunc_api_Val_o2_1_eq]
    unfold rotG
    rcases Nat.lt_trichotomy i j with h | h | h
    · rw [bne_t (by omega), decide_eq_false (by omega), if_neg (by omega), if_neg (by omega)]
      have e2 : IntKind.wrap .i64 ((IntKind.wrap .i64 ((m : Int) + (j : Int))) - (i : Int)) = ((m + j - i : Nat) : Int) := by rw [wrap64 (n := (m : Int) + j) (by omega) (by omega), wrap64 (by omega) (by omega)]; omega
      have e3 : IntKind.wrap .i64 ((j : Int) - (i : Int)) = ((j - i : Nat) : Int) := by rw [wrap64 (by omega) (by omega)]; omega
      have hs := w_swapRange at_ (m - i) (m + j - i) i l (by omega) (by omega) hl
      simp only [cond_true, cond_false, e1, e2, e3, hs, tells, Option.bind_some, k_c4d914_mk]
      exact rot_loop at_ m f i (j - i) _ hi (by omega) (by omega) him (by rw [swapN_len]; omega) (by rw [swapN_len]; exact hl)
    · subst h
      have hs := w_swapRange at_ (m - i) m i l (by omega) (by omega) hl
      rw [bne_f rfl, if_pos rfl]
      simp only [cond_false, e1, hs, tells, Option.bind_some, k_c4d914_mk]
    · rw [bne_t (by omega), decide_eq_true (by omega), if_neg (by omega), if_pos h]
      have e3 : IntKind.wrap .i64 ((i : Int) - (j : Int)) = ((i - j : Nat) : Int) := by rw [wrap64 (by omega) (by omega)]; omega
      have hs := w_swapRange at_ (m - i) m j l (by omega) (by omega) hl
      simp only [cond_true, cond_false, e1, e3, hs, tells, Option.bind_some, k_c4d914_mk]
      exact rot_loop at_ m f (i - j) j _ (by omega) hj (by omega) (by omega) (by rw [swapN_len]; omega) (by rw [swapN_len]; exact hl)
theorem w_rotate (at_ : Int) (a m b : Nat) (l : List (List Val)) (h1 : a < m) (h2 : m < b) (h3 : b ≤ l.length) (hl : l.length ≤ 1000000000) :
    W n_slices_rotateCmpFunc_api_Val false [.fx 0 0, .pv (.int .i64 (a : Int)), .pv (.int .i64 (m : Int)), .pv (.int .i64 (b : Int)), .fnv n_bag_Sort_2 [] [.own 1 0]] [.fix 0 0 (l.map rowp), .var false 0 (.pv (.int .i64 at_))] = tells (rotG m (b - a) (m - a) (b - m) l) at_ := by
  rw [o_slices_rotateCmpFunc_api_Val_o2_1, show IntKind.wrap .i64 ((m : Int) - (a : Int)) = ((m - a : Nat) : Int) by rw [wrap64 (by omega) (by omega)]; omega, show IntKind.wrap .i64 ((b : Int) - (m : Int)) = ((b - m : Nat) : Int) by rw [wrap64 (by omega) (by omega)]; omega]
  exact rot_loop at_ m (b - a) (m - a) (b - m) l (by omega) (by omega) (by omega) (by omega) (by omega) hl
theorem leO_get (at_ : Int) (l : List (List Val)) (i j : Nat) (hi : i < l.length) (hj : j < l.length) : leO (leR at_) l i j = !decide (cmpB (keyR at_ l[j]) (keyR at_ l[i]) < 0) := by
  unfold leO
  rw [List.getElem?_eq_getElem hi, List.getElem?_eq_getElem hj]; rfl
theorem ins_outer (at_ : Int) (a b : Nat) : ∀ (n i : Nat) (l : List (List Val)), i + n = b → a < i → b ≤ l.length → l.length ≤ 1000000000 →
    L_slices_insertionSortCmpFunc_api_Val_o2_1 (a : Int) (b : Int) (i : Int) (l.map rowp) at_ = tells (insG (leR at_) n a i l) at_
  | 0, i, l, h, ha, hb, hl => by
    rw [L_slices_insertionSortCmpFunc_api_Val_o2_1_eq, show i = b by omega]
    simp only [ge_len, cond_false]; rfl
  | n + 1, i, l, h, ha, hb, hl => by
    rw [L_slices_insertionSortCmpFunc_api_Val_o2_1_eq]
    simp only [lt_len (show i < b by omega), cond_true]
    have key : ∀ (n' k : Nat) (l : List (List Val)), k = a + n' → k ≤ i → k < l.length → b ≤ l.length → l.length ≤ 1000000000 → L_slices_insertionSortCmpFunc_api_Val_o2_2 (a : Int) (b : Int) (i : Int) (k : Int) (l.map rowp) at_ = tells (insG (leR at_) n a (i + 1) (insD (leR at_) n' k l)) at_ := by
      intro n'
      induction n' with
      | zero =>
        intro k l h1 h2 h3 h4 h5
        rw [L_slices_insertionSortCmpFunc_api_Val_o2_2_eq, decide_eq_false (by omega), cond_false, wrap_succ (by omega)]
        exact ins_outer at_ a b n (i + 1) l (by omega) (by omega) h4 h5
      | succ n' ih =>
        intro k l h1 h2 hk h4 hl
        have hk1 : k - 1 < l.length := by omega
        have e1 : IntKind.wrap .i64 ((k : Int) - 1) = ((k - 1 : Nat) : Int) := by rw [wrap64 (by omega) (by omega)]; omega
        rw [L_slices_insertionSortCmpFunc_api_Val_o2_2_eq, decide_eq_true (show (k : Int) > (a : Int) by omega)]
        simp only [cond_true, e1, nat_le, Bool.true_and, List.length_map, lt_len hk, lt_len hk1, Int.toNat_natCast, List.getElem?_map, List.getElem?_eq_getElem hk, List.getElem?_eq_getElem hk1, Option.map_some, Option.bind_some, c_rowp, rowp_fold, w_Sort2, k_5b106d_mk, c_i64_mk]
        unfold insD
        rw [leO_get at_ l (k - 1) k hk1 hk]
        cases hd : decide (cmpB (keyR at_ l[k]) (keyR at_ l[k - 1]) < 0) with
        | false =>
          simp only [cond_false, Bool.not_false, if_true]
          rw [wrap_succ (by omega)]
          exact ins_outer at_ a b n (i + 1) l (by omega) (by omega) h4 hl
        | true =>
          simp only [cond_true, Bool.not_true, Bool.false_eq_true, if_false, J_slices_insertionSortCmpFunc_api_Val_o2_3_eq, e1, nat_le, Bool.true_and, List.length_set, List.length_map, lt_len hk, lt_len hk1, Int.toNat_natCast, List.getElem?_map, List.getElem?_eq_getElem hk, List.getElem?_eq_getElem hk1, Option.map_some, Option.bind_some, c_rowp, rowp_fold]
          have h3 : k - 1 < ((l.map rowp).set k (rowp l[k - 1])).length := by simpa using hk1
          rw [List.getElem?_eq_getElem h3]
          simp only [Option.bind_some]
          rw [sw_map l k (k - 1) hk hk1]
          exact ih (k - 1) (sw l k (k - 1)) (by omega) (by omega) (by rw [sw_len]; omega) (by rw [sw_len]; exact h4) (by rw [sw_len]; exact hl)
    have := key (i - a) i l (by omega) (Nat.le_refl _) (by omega) hb hl
    rw [this]; rfl
theorem w_insertion (at_ : Int) (a b : Nat) (l : List (List Val)) (hb : b ≤ l.length) (hab : a ≤ b) (hl : l.length ≤ 1000000000) :
    W n_slices_insertionSortCmpFunc_api_Val false [.fx 0 0, .pv (.int .i64 (a : Int)), .pv (.int .i64 (b : Int)), .fnv n_bag_Sort_2 [] [.own 1 0]] [.fix 0 0 (l.map rowp), .var false 0 (.pv (.int .i64 at_))] = tells (insB (leR at_) a b l) at_ := by
  rw [o_slices_insertionSortCmpFunc_api_Val_o2_1, wrap_succ (by omega)]
  unfold insB
  rcases Nat.lt_or_ge a b with h | h
  · exact ins_outer at_ a b (b - (a + 1)) (a + 1) l (by omega) (by omega) hb hl
  · rw [show b - (a + 1) = 0 by omega, L_slices_insertionSortCmpFunc_api_Val_o2_1_eq, decide_eq_false (by omega)]; rfl
end Go.Cf
