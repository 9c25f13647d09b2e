/- Part 13 of the proof: an abstract machine that runs the program's code over plain values, its soundness, and what the functions tell of plain values. Conditions: those in each theorem. -/
import Derived.Test.YtgebkpchpliahaaA11
import Derived.Carry
set_option linter.unusedSectionVars false
namespace Go.Ab
open Go.RowKit (Below)
set_option linter.unusedVariables false
set_option linter.unusedSimpArgs false
variable [GL : Gl]
section
variable {c : Cfg} {t e : TypeId} {p : PV}
theorem Typed.int_inv {k : IntKind} (h : Typed c t p) (hk : (c.at_ t).k = .int k) : ∃ n, p = .int k n ∧ (Lit.int k n).wf = true := by
  cases h with
  | int t k' n h hw => rw [hk] at h; cases h; exact ⟨n, rfl, hw⟩
  | bool t b h => rw [hk] at h; cases h
  | str t s h => rw [hk] at h; cases h
  | slice t e xs h => rw [hk] at h; cases h
  | struct t fs ps h => rw [hk] at h; cases h
  | arr t e n ps h => rw [hk] at h; cases h
theorem Typed.bool_inv (h : Typed c t p) (hk : (c.at_ t).k = .bool) : ∃ b, p = .bool b := by
  cases h with
  | int t k' n h hw => rw [hk] at h; cases h
  | bool t b h => exact ⟨b, rfl⟩
  | str t s h => rw [hk] at h; cases h
  | slice t e xs h => rw [hk] at h; cases h
  | struct t fs ps h => rw [hk] at h; cases h
  | arr t e n ps h => rw [hk] at h; cases h
theorem Typed.str_inv (h : Typed c t p) (hk : (c.at_ t).k = .str) : ∃ s, p = .str s ∧ s.size ≤ maxLen := by
  cases h with
  | int t k' n h hw => rw [hk] at h; cases h
  | bool t b h => rw [hk] at h; cases h
  | str t s h hs => exact ⟨s, rfl, hs⟩
  | slice t e xs h => rw [hk] at h; cases h
  | struct t fs ps h => rw [hk] at h; cases h
  | arr t e n ps h => rw [hk] at h; cases h
theorem Typed.slice_inv (h : Typed c t p) (hk : (c.at_ t).k = .slice e) : ∃ xs, p = .slice (c.sh e) xs ∧ xs.length ≤ maxLen ∧ ∀ x ∈ xs, Typed c e x := by
  cases h with
  | int t k' n h hw => rw [hk] at h; cases h
  | bool t b h => rw [hk] at h; cases h
  | str t s h => rw [hk] at h; cases h
  | slice t e xs h hl hx => rw [hk] at h; cases h; exact ⟨xs, rfl, hl, hx⟩
  | struct t fs ps h => rw [hk] at h; cases h
  | arr t e n ps h => rw [hk] at h; cases h
theorem Typed.arr_inv {n : Nat} (h : Typed c t p) (hk : (c.at_ t).k = .arr n e) : ∃ ps : List PV, p = .agg (ps.flatMap PV.cells) ∧ ps.length = n ∧ ∀ x ∈ ps, Typed c e x := by
  cases h with
  | int t k' n h hw => rw [hk] at h; cases h
  | bool t b h => rw [hk] at h; cases h
  | str t s h => rw [hk] at h; cases h
  | slice t e xs h => rw [hk] at h; cases h
  | struct t fs ps h => rw [hk] at h; cases h
  | arr t e n ps h hl hx => rw [hk] at h; cases h; exact ⟨ps, rfl, hl, hx⟩
def TypedL (c : Cfg) : List TypeId → List PV → Prop
  | [], [] => True
  | t :: ts, p :: ps => Typed c t p ∧ TypedL c ts ps
  | _, _ => False
theorem typedL_of {c : Cfg} : ∀ {fs : List (TypeId × Nat)} {ps : List PV}, ps.length = fs.length → (∀ (i : Nat) (f : TypeId × Nat) (p : PV), fs[i]? = some f → ps[i]? = some p → Typed c f.1 p) → TypedL c (fs.map (·.1)) ps
  | [], [], _, _ => trivial
  | [], _ :: _, h, _ => by simp at h
  | _ :: _, [], h, _ => by simp at h
  | f :: fs, p :: ps, h, k => ⟨k 0 f p rfl rfl, typedL_of (by simpa using h) fun i f p hf hp => k (i + 1) f p (by simpa using hf) (by simpa using hp)⟩
theorem Typed.struct_inv {fs : List (TypeId × Nat)} (h : Typed c t p) (hk : (c.at_ t).k = .struct fs) : ∃ ps : List PV, p = .agg (ps.flatMap PV.cells) ∧ TypedL c (fs.map (·.1)) ps := by
  cases h with
  | int t k' n h hw => rw [hk] at h; cases h
  | bool t b h => rw [hk] at h; cases h
  | str t s h => rw [hk] at h; cases h
  | slice t e xs h => rw [hk] at h; cases h
  | struct t fs ps h hl hp => rw [hk] at h; cases h; exact ⟨ps, rfl, typedL_of hl hp⟩
  | arr t e n ps h => rw [hk] at h; cases h
theorem typedL1 {a : TypeId} {ps : List PV} (h : TypedL c [a] ps) : ∃ x, ps = [x] ∧ Typed c a x := by
  match ps, h with
  | [x], h => exact ⟨x, rfl, h.1⟩
theorem typedL_cons {a : TypeId} {ts : List TypeId} {ps : List PV} (h : TypedL c (a :: ts) ps) : ∃ x qs, ps = x :: qs ∧ Typed c a x ∧ TypedL c ts qs := by
  match ps, h with
  | x :: qs, h => exact ⟨x, qs, rfl, h.1, h.2⟩
theorem typedL_nil {ps : List PV} (h : TypedL c [] ps) : ps = [] := by
  match ps, h with
  | [], h => rfl
theorem list_of {α : Type} {Q : α → Prop} {f : α → PV} : ∀ {xs : List PV}, (∀ x ∈ xs, ∃ a, x = f a ∧ Q a) → ∃ l : List α, xs = l.map f ∧ ∀ a ∈ l, Q a
  | [], _ => ⟨[], rfl, by simp⟩
  | x :: xs, h => by
    obtain ⟨a, rfl, ha⟩ := h x (by simp)
    obtain ⟨l, rfl, hl⟩ := list_of (xs := xs) (fun y hy => h y (List.mem_cons_of_mem _ hy))
    exact ⟨a :: l, rfl, by simpa using ⟨ha, hl⟩⟩
end
end Go.Ab

namespace Go.Cf
open Go Go.Ab
set_option linter.unusedVariables false
theorem ty_int {p : PV} (h : Typed cfg t_int p) : ∃ n : Int, p = .int .i64 n ∧ I64 n := by
  obtain ⟨n, rfl, hw⟩ := h.int_inv (k := .i64) (by kernel_rfl)
  exact ⟨n, rfl, wf_i64 hw⟩
theorem ty_string {p : PV} (h : Typed cfg t_string p) : ∃ s : ByteArray, p = .str s ∧ s.size ≤ maxLen := h.str_inv (by kernel_rfl)
end Go.Cf

namespace Go.Cf
open Go Go.Ab
set_option linter.unusedVariables false
set_option maxRecDepth 100000
noncomputable def jF7 : Jn PV := (Classical.choose (exT fi7 (fin cfg fi7))).1
noncomputable def lF7 : Ln PV := (Classical.choose (exT fi7 (fin cfg fi7))).2
theorem T7 : Tied cfg W fi7 (fin cfg fi7) jF7 lF7 := Classical.choose_spec (exT fi7 (fin cfg fi7))
noncomputable def J_roadbooklaw03_BagGroups_1 (i5 : Int) (l6 : List PV) (l7 : List PV) (l8 : List PV) : Option PV := jF7 [1, 1, 1, 1] (St.mk [(1, (AV.pv (PV.int .i64 i5))), (2, (AV.pv (PV.slice 0 l6))), (3, (AV.pv (PV.imm 3 (PV.agg [(PV.slice 0 l7), (PV.slice 0 l8)]) 0)))] [])
noncomputable def J_roadbooklaw03_BagGroups_2 (i28 : Int) (l29 : List PV) (l30 : List PV) (l31 : List PV) (b32 : Bool) (b33 : Bool) (b34 : Bool) (l35 : List PV) (l36 : List PV) (l37 : List PV) (l38 : List PV) : Option PV := jF7 [1, 0, 1, 1, 1, 1, 1, 1] (St.mk [(1, (AV.pv (PV.int .i64 i28))), (2, (AV.pv (PV.slice 0 l29))), (3, (AV.pv (PV.imm 3 (PV.agg [(PV.slice 0 l30), (PV.slice 0 l31)]) 0))), (9, (AV.own 0 0)), (10, (AV.pv (PV.bool b32))), (12, (AV.pv (PV.bool b33))), (58, (AV.pv (PV.bool b34)))] [(Ob.var false 3 (AV.pv (PV.agg [(PV.slice 0 l35), (PV.slice 0 l36)]))), (Ob.var false 3 (AV.pv (PV.agg [(PV.slice 0 l37), (PV.slice 0 l38)])))])
noncomputable def L_roadbooklaw03_BagGroups_3 (i41 : Int) (l42 : List PV) (l43 : List PV) (l44 : List PV) (i45 : Int) (i46 : Int) (l47 : List PV) (l48 : List PV) (l49 : List PV) (l50 : List PV) : Option PV := lF7 [0, 1, 0, 1, 1, 1, 1, 1, 1, 1, 1] 2 (St.mk [(1, (AV.pv (PV.int .i64 i41))), (2, (AV.pv (PV.slice 0 l42))), (3, (AV.pv (PV.imm 3 (PV.agg [(PV.slice 0 l43), (PV.slice 0 l44)]) 0))), (9, (AV.own 0 0)), (13, (AV.pv (PV.int .i64 i45))), (14, (AV.pv (PV.int .i64 i46)))] [(Ob.var false 3 (AV.pv (PV.agg [(PV.slice 0 l47), (PV.slice 0 l48)]))), (Ob.var false 3 (AV.pv (PV.agg [(PV.slice 0 l49), (PV.slice 0 l50)])))])
noncomputable def J_roadbooklaw03_BagGroups_4 (i71 : Int) (l72 : List PV) (l73 : List PV) (l74 : List PV) (i75 : Int) (i76 : Int) (l77 : List PV) (l78 : List PV) (l79 : List PV) (l80 : List PV) : Option PV := jF7 [1, 0, 0, 1, 2, 0, 1, 0, 1, 1, 1, 1, 1, 1, 1, 1] (St.mk [(1, (AV.pv (PV.int .i64 i71))), (2, (AV.pv (PV.slice 0 l72))), (3, (AV.pv (PV.imm 3 (PV.agg [(PV.slice 0 l73), (PV.slice 0 l74)]) 0))), (9, (AV.own 0 0)), (13, (AV.pv (PV.int .i64 i75))), (14, (AV.pv (PV.int .i64 i76)))] [(Ob.var false 3 (AV.pv (PV.agg [(PV.slice 0 l77), (PV.slice 0 l78)]))), (Ob.var false 3 (AV.pv (PV.agg [(PV.slice 0 l79), (PV.slice 0 l80)])))])
theorem J_roadbooklaw03_BagGroups_1_eq (i5 : Int) (l6 : List PV) (l7 : List PV) (l8 : List PV) : J_roadbooklaw03_BagGroups_1 i5 l6 l7 l8 =
  (((wc W n_bag_Group [(PV.agg [(PV.slice 0 l7), (PV.slice 0 l8)]), (PV.int .i64 i5), (PV.slice 0 l6)])).bind (fun v9 => (((PV.asTup v9)).bind (fun v10 => (((v10)[0]?).bind (fun v11 => (c_g_s0_s0 v11 (fun v12 v13 => (((PV.asTup v9)).bind (fun v14 => (((v14)[1]?).bind (fun v15 => (c_b v15 (fun v16 => (((wc W n_bag_Sort [(PV.agg [(PV.slice 0 l7), (PV.slice 0 l8)]), (PV.int .i64 i5)])).bind (fun v17 => (c_g_s0_s0 v17 (fun v18 v19 => (((wc W n_bag_Group [(PV.agg [(PV.slice 0 v18), (PV.slice 0 v19)]), (PV.int .i64 i5), (PV.slice 0 l6)])).bind (fun v20 => (((PV.asTup v20)).bind (fun v21 => (((v21)[0]?).bind (fun v22 => (c_g_s0_s0 v22 (fun v23 v24 => (((PV.asTup v20)).bind (fun v25 => (((v25)[1]?).bind (fun v26 => (c_b v26 (fun v27 => (bif (!(v16 == v27)) then (J_roadbooklaw03_BagGroups_2 i5 l6 l7 l8 v16 v27 true v12 v13 v23 v24) else (((wc W n_roadbookref03_Like [(PV.agg [(PV.slice 0 v12), (PV.slice 0 v13)]), (PV.agg [(PV.slice 0 v23), (PV.slice 0 v24)])])).bind (fun v39 => (c_b v39 (fun v40 => (bif (!v40) then (J_roadbooklaw03_BagGroups_2 i5 l6 l7 l8 v16 v27 true v12 v13 v23 v24) else (J_roadbooklaw03_BagGroups_2 i5 l6 l7 l8 v16 v27 (!v16) v12 v13 v23 v24))))))))))))))))))))))))))))))))))))))) := (T7.join [1, 1, 1, 1] _).trans (by kernel_rfl)
theorem J_roadbooklaw03_BagGroups_2_eq (i28 : Int) (l29 : List PV) (l30 : List PV) (l31 : List PV) (b32 : Bool) (b33 : Bool) (b34 : Bool) (l35 : List PV) (l36 : List PV) (l37 : List PV) (l38 : List PV) : J_roadbooklaw03_BagGroups_2 i28 l29 l30 l31 b32 b33 b34 l35 l36 l37 l38 =
  (bif b34 then (some (PV.bool (b32 == b33))) else (L_roadbooklaw03_BagGroups_3 i28 l29 l30 l31 (0 : Int) (0 : Int) l35 l36 l37 l38)) := (T7.join [1, 1, 1, 1, 1, 1, 0, 1] _).trans (by kernel_rfl)
theorem L_roadbooklaw03_BagGroups_3_eq (i41 : Int) (l42 : List PV) (l43 : List PV) (l44 : List PV) (i45 : Int) (i46 : Int) (l47 : List PV) (l48 : List PV) (l49 : List PV) (l50 : List PV) : L_roadbooklaw03_BagGroups_3 i41 l42 l43 l44 i45 i46 l47 l48 l49 l50 =
  (bif (decide (i46 < (((List.length l48) : Nat) : Int))) then (bif (decide ((0 : Int) ≤ i46)) then (((l48)[(Int.toNat i46)]?).bind (fun v51 => (c_s3 v51 (fun v52 => (bif ((((List.length v52) : Nat) : Int) != (IntKind.wrap .i64 ((2 : Int) + (((List.length l42) : Nat) : Int) : Int))) then (some (PV.bool false)) else (bif (decide ((0 : Int) ≤ i46)) then (((l48)[(Int.toNat i46)]?).bind (fun v53 => (c_s3 v53 (fun v54 => (((v54)[1]?).bind (fun v55 => (((PV.load 3 v55 1 0)).bind (fun v56 => (c_i64 v56 (fun v57 => (bif (decide (v57 < (1 : Int))) then (some (PV.bool false)) else (bif (decide (GT.gt i46 (0 : Int))) then (bif (decide ((0 : Int) ≤ i46)) then (((l48)[(Int.toNat i46)]?).bind (fun v58 => (c_s3 v58 (fun v59 => (((v59)[0]?).bind (fun v60 => (c_g_i64_i64 v60 (fun v61 v62 => (bif (decide ((0 : Int) ≤ (IntKind.wrap .i64 (i46 - (1 : Int) : Int)))) then (((l48)[(Int.toNat (IntKind.wrap .i64 (i46 - (1 : Int) : Int)))]?).bind (fun v63 => (c_s3 v63 (fun v64 => (((v64)[0]?).bind (fun v65 => (c_g_i64_i64 v65 (fun v66 v67 => (((((bif (v61 == v66) then (bif (v62 == v67) then (some true) else (some false)) else (some false))).bind (fun v68 => (some (PV.bool v68))))).bind (fun v69 => (c_b v69 (fun v70 => (bif v70 then (some (PV.bool false)) else (J_roadbooklaw03_BagGroups_4 i41 l42 l43 l44 i45 i46 l47 l48 l49 l50)))))))))))))) else none))))))))) else none) else (J_roadbooklaw03_BagGroups_4 i41 l42 l43 l44 i45 i46 l47 l48 l49 l50))))))))))))) else none)))))) else none) else (bif (i45 == (((List.length l44) : Nat) : Int)) then (((wc W n_bag_Sorted [(PV.agg [(PV.slice 0 l47), (PV.slice 0 l48)]), (PV.int .i64 i41)])).bind (fun v81 => (c_b v81 (fun v82 => (some (PV.bool v82)))))) else (some (PV.bool false)))) := (T7.loop [1, 1, 1, 1, 1, 1, 1, 1, 0, 1, 0] 2 _ rfl).trans (by kernel_rfl)
theorem J_roadbooklaw03_BagGroups_4_eq (i71 : Int) (l72 : List PV) (l73 : List PV) (l74 : List PV) (i75 : Int) (i76 : Int) (l77 : List PV) (l78 : List PV) (l79 : List PV) (l80 : List PV) : J_roadbooklaw03_BagGroups_4 i71 l72 l73 l74 i75 i76 l77 l78 l79 l80 =
  (bif (decide ((0 : Int) ≤ i76)) then (((l78)[(Int.toNat i76)]?).bind (fun v83 => (c_s3 v83 (fun v84 => (((v84)[1]?).bind (fun v85 => (((PV.load 3 v85 1 0)).bind (fun v86 => (c_i64 v86 (fun v87 => (L_roadbooklaw03_BagGroups_3 i71 l72 l73 l74 (IntKind.wrap .i64 (i75 + v87 : Int)) (IntKind.wrap .i64 (i76 + (1 : Int) : Int)) l77 l78 l79 l80))))))))))) else none) := (T7.join [1, 1, 1, 1, 1, 1, 1, 1, 0, 1, 0, 2, 1, 0, 0, 1] _).trans (by kernel_rfl)
theorem e_roadbooklaw03_BagGroups (a0_0 : List PV) (a0_1 : List PV) (a1 : Int) (a2 : List PV) : wc W n_roadbooklaw03_BagGroups [(PV.agg [(PV.slice 0 a0_0), (PV.slice 0 a0_1)]), (PV.int .i64 a1), (PV.slice 0 a2)] =
  (((wc W n_roadbooklaw03_awake [])).bind (fun v1 => (c_b v1 (fun v2 => (((wc W n_roadbooklaw03_few [(PV.agg [(PV.slice 0 a0_0), (PV.slice 0 a0_1)]), (PV.int .i64 (60 : Int))])).bind (fun v3 => (c_b v3 (fun v4 => (bif (!v2) then (some (PV.bool v2)) else (bif (!v4) then (some (PV.bool v2)) else (bif (decide (GT.gt (((List.length a2) : Nat) : Int) (20 : Int))) then (some (PV.bool v2)) else (J_roadbooklaw03_BagGroups_1 a1 a2 a0_0 a0_1)))))))))))) := go (by kernel_rfl) (by kernel_rfl) T7 (by kernel_rfl)
noncomputable def jF19 : Jn PV := (Classical.choose (exT fi19 (fin cfg fi19))).1
noncomputable def lF19 : Ln PV := (Classical.choose (exT fi19 (fin cfg fi19))).2
theorem T19 : Tied cfg W fi19 (fin cfg fi19) jF19 lF19 := Classical.choose_spec (exT fi19 (fin cfg fi19))
noncomputable def J_roadbookref03_Like_1 (l3 : List PV) (l4 : List PV) (l5 : List PV) (l6 : List PV) : Option PV := jF19 [1, 1, 1] (St.mk [(2, (AV.pv (PV.imm 3 (PV.agg [(PV.slice 0 l3), (PV.slice 0 l4)]) 0))), (3, (AV.pv (PV.imm 3 (PV.agg [(PV.slice 0 l5), (PV.slice 0 l6)]) 0)))] [])
noncomputable def L_roadbookref03_Like_2 (l7 : List PV) (l8 : List PV) (l9 : List PV) (l10 : List PV) (i11 : Int) : Option PV := lF19 [0, 1, 0, 1, 1, 1] 0 (St.mk [(2, (AV.pv (PV.imm 3 (PV.agg [(PV.slice 0 l7), (PV.slice 0 l8)]) 0))), (3, (AV.pv (PV.imm 3 (PV.agg [(PV.slice 0 l9), (PV.slice 0 l10)]) 0))), (6, (AV.pv (PV.int .i64 i11)))] [])
theorem J_roadbookref03_Like_1_eq (l3 : List PV) (l4 : List PV) (l5 : List PV) (l6 : List PV) : J_roadbookref03_Like_1 l3 l4 l5 l6 =
  (L_roadbookref03_Like_2 l3 l4 l5 l6 (0 : Int)) := (T19.join [1, 1, 1] _).trans (by kernel_rfl)
theorem L_roadbookref03_Like_2_eq (l7 : List PV) (l8 : List PV) (l9 : List PV) (l10 : List PV) (i11 : Int) : L_roadbookref03_Like_2 l7 l8 l9 l10 i11 =
  (bif (decide (i11 < (((List.length l8) : Nat) : Int))) then (bif (decide ((0 : Int) ≤ i11)) then (((l8)[(Int.toNat i11)]?).bind (fun v12 => (c_s3 v12 (fun v13 => (bif (decide ((0 : Int) ≤ i11)) then (((l10)[(Int.toNat i11)]?).bind (fun v14 => (c_s3 v14 (fun v15 => (((wc W n_roadbookref03_Row [(PV.slice 3 v13), (PV.slice 3 v15)])).bind (fun v16 => (c_b v16 (fun v17 => (bif (!v17) then (some (PV.bool false)) else (L_roadbookref03_Like_2 l7 l8 l9 l10 (IntKind.wrap .i64 (i11 + (1 : Int) : Int)))))))))))) else none))))) else none) else (some (PV.bool true))) := (T19.loop [1, 1, 1, 0, 1, 0] 0 _ rfl).trans (by kernel_rfl)
theorem e_roadbookref03_Like (a0_0 : List PV) (a0_1 : List PV) (a1_0 : List PV) (a1_1 : List PV) : wc W n_roadbookref03_Like [(PV.agg [(PV.slice 0 a0_0), (PV.slice 0 a0_1)]), (PV.agg [(PV.slice 0 a1_0), (PV.slice 0 a1_1)])] =
  (((wc W n_roadbookref02_Ints [(PV.slice 0 a0_0), (PV.slice 0 a1_0)])).bind (fun v1 => (c_b v1 (fun v2 => (bif (!v2) then (some (PV.bool false)) else (bif ((((List.length a0_1) : Nat) : Int) != (((List.length a1_1) : Nat) : Int)) then (some (PV.bool false)) else (J_roadbookref03_Like_1 a0_0 a0_1 a1_0 a1_1))))))) := go (by kernel_rfl) (by kernel_rfl) T19 (by kernel_rfl)
noncomputable def jF25 : Jn PV := (Classical.choose (exT fi25 (fin cfg fi25))).1
noncomputable def lF25 : Ln PV := (Classical.choose (exT fi25 (fin cfg fi25))).2
theorem T25 : Tied cfg W fi25 (fin cfg fi25) jF25 lF25 := Classical.choose_spec (exT fi25 (fin cfg fi25))
noncomputable def L_bag_May_1 (l1 : List PV) (l2 : List PV) (l3 : List PV) (i4 : Int) (i5 : Int) (b6 : Bool) (b7 : Bool) (b8 : Bool) (b9 : Bool) (b10 : Bool) (b11 : Bool) (b12 : Bool) (b13 : Bool) (b14 : Bool) (b15 : Bool) (b16 : Bool) (b17 : Bool) (b18 : Bool) (b19 : Bool) (b20 : Bool) (b21 : Bool) : Option PV := lF25 [0, 1, 0, 1, 1] 1 (St.mk [(1, (AV.pv (PV.imm 3 (PV.agg [(PV.slice 0 l1), (PV.slice 0 l2)]) 0))), (3, (AV.own 0 0)), (10, (AV.pv (PV.slice 0 l3))), (11, (AV.pv (PV.int .i64 i4))), (12, (AV.pv (PV.int .i64 i5)))] [(Ob.var false 17 (AV.pv (PV.agg [(PV.bool b6), (PV.bool b7), (PV.bool b8), (PV.bool b9), (PV.bool b10), (PV.bool b11), (PV.bool b12), (PV.bool b13), (PV.bool b14), (PV.bool b15), (PV.bool b16), (PV.bool b17), (PV.bool b18), (PV.bool b19), (PV.bool b20), (PV.bool b21)])))])
noncomputable def L_bag_May_2 (l26 : List PV) (l27 : List PV) (l28 : List PV) (i29 : Int) (i30 : Int) (b31 : Bool) (b32 : Bool) (b33 : Bool) (b34 : Bool) (b35 : Bool) (b36 : Bool) (b37 : Bool) (b38 : Bool) (b39 : Bool) (b40 : Bool) (b41 : Bool) (b42 : Bool) (b43 : Bool) (b44 : Bool) (b45 : Bool) (b46 : Bool) : Option PV := lF25 [0, 1, 0, 1, 1, 1, 1] 1 (St.mk [(1, (AV.pv (PV.imm 3 (PV.agg [(PV.slice 0 l26), (PV.slice 0 l27)]) 0))), (6, (AV.pv (PV.fn n_bag_May_1 [] []))), (31, (AV.pv (PV.slice 0 l28))), (32, (AV.pv (PV.int .i64 i29))), (33, (AV.pv (PV.int .i64 i30)))] [(Ob.var false 17 (AV.pv (PV.agg [(PV.bool b31), (PV.bool b32), (PV.bool b33), (PV.bool b34), (PV.bool b35), (PV.bool b36), (PV.bool b37), (PV.bool b38), (PV.bool b39), (PV.bool b40), (PV.bool b41), (PV.bool b42), (PV.bool b43), (PV.bool b44), (PV.bool b45), (PV.bool b46)])))])
theorem L_bag_May_1_eq (l1 : List PV) (l2 : List PV) (l3 : List PV) (i4 : Int) (i5 : Int) (b6 : Bool) (b7 : Bool) (b8 : Bool) (b9 : Bool) (b10 : Bool) (b11 : Bool) (b12 : Bool) (b13 : Bool) (b14 : Bool) (b15 : Bool) (b16 : Bool) (b17 : Bool) (b18 : Bool) (b19 : Bool) (b20 : Bool) (b21 : Bool) : L_bag_May_1 l1 l2 l3 i4 i5 b6 b7 b8 b9 b10 b11 b12 b13 b14 b15 b16 b17 b18 b19 b20 b21 =
  (bif (decide (i5 < i4)) then (bif (decide ((0 : Int) ≤ i5)) then (((l3)[(Int.toNat i5)]?).bind (fun v22 => (c_i64 v22 (fun v23 => (bif (decide (v23 < (0 : Int))) then (some (PV.bool false)) else (bif (decide (GT.gt v23 (15 : Int))) then (some (PV.bool false)) else (bif ((decide ((0 : Int) ≤ v23)) && (decide (v23 < (16 : Int)))) then (((PV.load 17 (PV.agg [(PV.bool b6), (PV.bool b7), (PV.bool b8), (PV.bool b9), (PV.bool b10), (PV.bool b11), (PV.bool b12), (PV.bool b13), (PV.bool b14), (PV.bool b15), (PV.bool b16), (PV.bool b17), (PV.bool b18), (PV.bool b19), (PV.bool b20), (PV.bool b21)]) (0 + ((Int.toNat v23) * 1 : Nat) : Nat) 0)).bind (fun v24 => (c_b v24 (fun v25 => (bif v25 then (some (PV.bool false)) else (bif ((decide ((0 : Int) ≤ v23)) && (decide (v23 < (16 : Int)))) then (bif ((decide (((0 + ((Int.toNat v23) * 1 : Nat) : Nat) + 1 : Nat) ≤ 16)) && true) then (L_bag_May_1 l1 l2 l3 i4 (IntKind.wrap .i64 (i5 + (1 : Int) : Int)) (bif (0 == (0 + ((Int.toNat v23) * 1 : Nat) : Nat)) then true else b6) (bif (1 == (0 + ((Int.toNat v23) * 1 : Nat) : Nat)) then true else b7) (bif (2 == (0 + ((Int.toNat v23) * 1 : Nat) : Nat)) then true else b8) (bif (3 == (0 + ((Int.toNat v23) * 1 : Nat) : Nat)) then true else b9) (bif (4 == (0 + ((Int.toNat v23) * 1 : Nat) : Nat)) then true else b10) (bif (5 == (0 + ((Int.toNat v23) * 1 : Nat) : Nat)) then true else b11) (bif (6 == (0 + ((Int.toNat v23) * 1 : Nat) : Nat)) then true else b12) (bif (7 == (0 + ((Int.toNat v23) * 1 : Nat) : Nat)) then true else b13) (bif (8 == (0 + ((Int.toNat v23) * 1 : Nat) : Nat)) then true else b14) (bif (9 == (0 + ((Int.toNat v23) * 1 : Nat) : Nat)) then true else b15) (bif (10 == (0 + ((Int.toNat v23) * 1 : Nat) : Nat)) then true else b16) (bif (11 == (0 + ((Int.toNat v23) * 1 : Nat) : Nat)) then true else b17) (bif (12 == (0 + ((Int.toNat v23) * 1 : Nat) : Nat)) then true else b18) (bif (13 == (0 + ((Int.toNat v23) * 1 : Nat) : Nat)) then true else b19) (bif (14 == (0 + ((Int.toNat v23) * 1 : Nat) : Nat)) then true else b20) (bif (15 == (0 + ((Int.toNat v23) * 1 : Nat) : Nat)) then true else b21)) else none) else none)))))) else none))))))) else none) else (L_bag_May_2 l1 l2 l2 (((List.length l2) : Nat) : Int) (0 : Int) b6 b7 b8 b9 b10 b11 b12 b13 b14 b15 b16 b17 b18 b19 b20 b21)) := (T25.loop [1, 1, 0, 1, 0] 1 _ rfl).trans (by kernel_rfl)
theorem L_bag_May_2_eq (l26 : List PV) (l27 : List PV) (l28 : List PV) (i29 : Int) (i30 : Int) (b31 : Bool) (b32 : Bool) (b33 : Bool) (b34 : Bool) (b35 : Bool) (b36 : Bool) (b37 : Bool) (b38 : Bool) (b39 : Bool) (b40 : Bool) (b41 : Bool) (b42 : Bool) (b43 : Bool) (b44 : Bool) (b45 : Bool) (b46 : Bool) : L_bag_May_2 l26 l27 l28 i29 i30 b31 b32 b33 b34 b35 b36 b37 b38 b39 b40 b41 b42 b43 b44 b45 b46 =
  (bif (decide (i30 < i29)) then (bif (decide ((0 : Int) ≤ i30)) then (((l28)[(Int.toNat i30)]?).bind (fun v47 => (c_s3 v47 (fun v48 => (bif ((((List.length v48) : Nat) : Int) != (((List.length l26) : Nat) : Int)) then (some (PV.bool false)) else (((wc W n_slices_ContainsFunc_api_Val_api_Val_c5fc [(PV.slice 3 v48), (PV.fn n_bag_May_1 [] [])])).bind (fun v49 => (c_b v49 (fun v50 => (bif v50 then (some (PV.bool false)) else (L_bag_May_2 l26 l27 l28 i29 (IntKind.wrap .i64 (i30 + (1 : Int) : Int)) b31 b32 b33 b34 b35 b36 b37 b38 b39 b40 b41 b42 b43 b44 b45 b46))))))))))) else none) else (some (PV.bool (decide ((((List.length l27) : Nat) : Int) ≤ (5000 : Int)))))) := (T25.loop [1, 1, 1, 1, 0, 1, 0] 1 _ rfl).trans (by kernel_rfl)
theorem e_bag_May (a0_0 : List PV) (a0_1 : List PV) : wc W n_bag_May [(PV.agg [(PV.slice 0 a0_0), (PV.slice 0 a0_1)])] =
  (L_bag_May_1 a0_0 a0_1 a0_0 (((List.length a0_0) : Nat) : Int) (0 : Int) false false false false false false false false false false false false false false false false) := go (by kernel_rfl) (by kernel_rfl) T25 (by kernel_rfl)
noncomputable def jF26 : Jn PV := (Classical.choose (exT fi26 (fin cfg fi26))).1
noncomputable def lF26 : Ln PV := (Classical.choose (exT fi26 (fin cfg fi26))).2
theorem T26 : Tied cfg W fi26 (fin cfg fi26) jF26 lF26 := Classical.choose_spec (exT fi26 (fin cfg fi26))
noncomputable def L_roadbookref03_Row_1 (l1 : List PV) (l2 : List PV) (i3 : Int) : Option PV := lF26 [0, 1, 0, 1, 1] 0 (St.mk [(0, (AV.pv (PV.slice 3 l1))), (1, (AV.pv (PV.slice 3 l2))), (5, (AV.pv (PV.int .i64 i3)))] [])
theorem L_roadbookref03_Row_1_eq (l1 : List PV) (l2 : List PV) (i3 : Int) : L_roadbookref03_Row_1 l1 l2 i3 =
  (bif (decide (i3 < (((List.length l1) : Nat) : Int))) then (bif (decide ((0 : Int) ≤ i3)) then (((l1)[(Int.toNat i3)]?).bind (fun v4 => (c_g_i64_i64 v4 (fun v5 v6 => (bif (decide ((0 : Int) ≤ i3)) then (((l2)[(Int.toNat i3)]?).bind (fun v7 => (c_g_i64_i64 v7 (fun v8 v9 => (((((bif (v5 == v8) then (bif (v6 == v9) then (some true) else (some false)) else (some false))).bind (fun v10 => (some (PV.bool (!v10)))))).bind (fun v11 => (c_b v11 (fun v12 => (bif v12 then (some (PV.bool false)) else (L_roadbookref03_Row_1 l1 l2 (IntKind.wrap .i64 (i3 + (1 : Int) : Int)))))))))))) else none))))) else none) else (some (PV.bool true))) := (T26.loop [1, 1, 0, 1, 0] 0 _ rfl).trans (by kernel_rfl)
theorem e_roadbookref03_Row (a0 : List PV) (a1 : List PV) : wc W n_roadbookref03_Row [(PV.slice 3 a0), (PV.slice 3 a1)] =
  (bif ((((List.length a0) : Nat) : Int) != (((List.length a1) : Nat) : Int)) then (some (PV.bool false)) else (L_roadbookref03_Row_1 a0 a1 (0 : Int))) := go (by kernel_rfl) (by kernel_rfl) T26 (by kernel_rfl)
noncomputable def jF27 : Jn PV := (Classical.choose (exT fi27 (fin cfg fi27))).1
noncomputable def lF27 : Ln PV := (Classical.choose (exT fi27 (fin cfg fi27))).2
theorem T27 : Tied cfg W fi27 (fin cfg fi27) jF27 lF27 := Classical.choose_spec (exT fi27 (fin cfg fi27))
theorem e_roadbooklaw03_awake  : wc W n_roadbooklaw03_awake [] =
  (((wc W n_roadbooklaw03_Three [])).bind (fun v1 => (c_g_s0_s0 v1 (fun v2 v3 => (((wc W n_bag_Group [(PV.agg [(PV.slice 0 v2), (PV.slice 0 v3)]), (PV.int .i64 (0 : Int)), (PV.slice 0 [(PV.int .i64 (1 : Int))])])).bind (fun v4 => (((PV.asTup v4)).bind (fun v5 => (((v5)[0]?).bind (fun v6 => (c_g_s0_s0 v6 (fun v7 v8 => (((PV.asTup v4)).bind (fun v9 => (((v9)[1]?).bind (fun v10 => (c_b v10 (fun v11 => (((wc W n_roadbooklaw03_Three [])).bind (fun v12 => (c_g_s0_s0 v12 (fun v13 v14 => (((wc W n_bag_May [(PV.agg [(PV.slice 0 v13), (PV.slice 0 v14)])])).bind (fun v15 => (c_b v15 (fun v16 => (bif v16 then (bif v11 then (((wc W n_roadbookref03_Like [(PV.agg [(PV.slice 0 v7), (PV.slice 0 v8)]), (PV.agg [(PV.slice 0 [(PV.int .i64 (0 : Int)), (PV.int .i64 (16 : Int)), (PV.int .i64 (17 : Int))]), (PV.slice 0 [(PV.slice 3 [(PV.agg [(PV.int .i64 (0 : Int)), (PV.int .i64 (1 : Int))]), (PV.agg [(PV.int .i64 (0 : Int)), (PV.int .i64 (2 : Int))]), (PV.agg [(PV.int .i64 (0 : Int)), (PV.int .i64 (7 : Int))])]), (PV.slice 3 [(PV.agg [(PV.int .i64 (0 : Int)), (PV.int .i64 (3 : Int))]), (PV.agg [(PV.int .i64 (0 : Int)), (PV.int .i64 (1 : Int))]), (PV.agg [(PV.int .i64 (0 : Int)), (PV.int .i64 (4 : Int))])])])])])).bind (fun v17 => (c_b v17 (fun v18 => (bif v18 then (((wc W n_roadbooklaw03_Three [])).bind (fun v19 => (c_g_s0_s0 v19 (fun v20 v21 => (((wc W n_bag_Sorted [(PV.agg [(PV.slice 0 v20), (PV.slice 0 v21)]), (PV.int .i64 (0 : Int))])).bind (fun v22 => (c_b v22 (fun v23 => (bif (!v23) then (((wc W n_roadbooklaw03_Three [])).bind (fun v24 => (c_g_s0_s0 v24 (fun v25 v26 => (((wc W n_bag_Sort [(PV.agg [(PV.slice 0 v25), (PV.slice 0 v26)]), (PV.int .i64 (0 : Int))])).bind (fun v27 => (c_g_s0_s0 v27 (fun v28 v29 => (((wc W n_bag_Sorted [(PV.agg [(PV.slice 0 v28), (PV.slice 0 v29)]), (PV.int .i64 (0 : Int))])).bind (fun v30 => (c_b v30 (fun v31 => (some (PV.bool v31)))))))))))))) else (some (PV.bool false))))))))))) else (some (PV.bool false))))))) else (some (PV.bool false))) else (some (PV.bool false))))))))))))))))))))))))))))) := go (by kernel_rfl) (by kernel_rfl) T27 (by kernel_rfl)
noncomputable def jF28 : Jn PV := (Classical.choose (exT fi28 (fin cfg fi28))).1
noncomputable def lF28 : Ln PV := (Classical.choose (exT fi28 (fin cfg fi28))).2
theorem T28 : Tied cfg W fi28 (fin cfg fi28) jF28 lF28 := Classical.choose_spec (exT fi28 (fin cfg fi28))
noncomputable def J_roadbooklaw03_few_1 (l1 : List PV) (l2 : List PV) : Option PV := jF28 [1, 1] (St.mk [(2, (AV.pv (PV.imm 3 (PV.agg [(PV.slice 0 l1), (PV.slice 0 l2)]) 0)))] [])
noncomputable def L_roadbooklaw03_few_2 (l3 : List PV) (l4 : List PV) (i5 : Int) : Option PV := lF28 [0, 1, 0, 1, 1] 0 (St.mk [(2, (AV.pv (PV.imm 3 (PV.agg [(PV.slice 0 l3), (PV.slice 0 l4)]) 0))), (5, (AV.pv (PV.int .i64 i5)))] [])
theorem J_roadbooklaw03_few_1_eq (l1 : List PV) (l2 : List PV) : J_roadbooklaw03_few_1 l1 l2 =
  (L_roadbooklaw03_few_2 l1 l2 (0 : Int)) := (T28.join [1, 1] _).trans (by kernel_rfl)
theorem L_roadbooklaw03_few_2_eq (l3 : List PV) (l4 : List PV) (i5 : Int) : L_roadbooklaw03_few_2 l3 l4 i5 =
  (bif (decide (i5 < (((List.length l4) : Nat) : Int))) then (bif (decide ((0 : Int) ≤ i5)) then (((l4)[(Int.toNat i5)]?).bind (fun v6 => (c_s3 v6 (fun v7 => (bif (decide (GT.gt (((List.length v7) : Nat) : Int) (20 : Int))) then (some (PV.bool false)) else (L_roadbooklaw03_few_2 l3 l4 (IntKind.wrap .i64 (i5 + (1 : Int) : Int)))))))) else none) else (some (PV.bool true))) := (T28.loop [1, 1, 0, 1, 0] 0 _ rfl).trans (by kernel_rfl)
theorem e_roadbooklaw03_few (a0_0 : List PV) (a0_1 : List PV) (a1 : Int) : wc W n_roadbooklaw03_few [(PV.agg [(PV.slice 0 a0_0), (PV.slice 0 a0_1)]), (PV.int .i64 a1)] =
  (bif (decide (GT.gt (((List.length a0_1) : Nat) : Int) a1)) then (some (PV.bool false)) else (bif (decide (GT.gt (((List.length a0_0) : Nat) : Int) (20 : Int))) then (some (PV.bool false)) else (J_roadbooklaw03_few_1 a0_0 a0_1))) := go (by kernel_rfl) (by kernel_rfl) T28 (by kernel_rfl)
noncomputable def jF29 : Jn PV := (Classical.choose (exT fi29 (fin cfg fi29))).1
noncomputable def lF29 : Ln PV := (Classical.choose (exT fi29 (fin cfg fi29))).2
theorem T29 : Tied cfg W fi29 (fin cfg fi29) jF29 lF29 := Classical.choose_spec (exT fi29 (fin cfg fi29))
noncomputable def J_bag_Group_1 (i7 : Int) (l8 : List PV) (l9 : List PV) (l10 : List PV) (i11 : Int) : Option PV := jF29 [1, 1, 1, 1] (St.mk [(1, (AV.pv (PV.int .i64 i7))), (2, (AV.pv (PV.slice 0 l8))), (3, (AV.pv (PV.imm 3 (PV.agg [(PV.slice 0 l9), (PV.slice 0 l10)]) 0))), (6, (AV.own 0 0)), (8, (AV.pv (PV.int .i64 i11)))] [(Ob.var false 3 (AV.agg [(AV.nil 0), (AV.nil 0)]))])
noncomputable def L_bag_Group_2 (i12 : Int) (l13 : List PV) (l14 : List PV) (l15 : List PV) (i16 : Int) (l17 : List PV) (i18 : Int) (i19 : Int) (m20 : List (PV × PV)) (l21 : List PV) (l22 : List PV) : Option PV := lF29 [0, 1, 0, 1, 1, 1, 1, 1, 1] 4 (St.mk [(1, (AV.pv (PV.int .i64 i12))), (2, (AV.pv (PV.slice 0 l13))), (3, (AV.pv (PV.imm 3 (PV.agg [(PV.slice 0 l14), (PV.slice 0 l15)]) 0))), (6, (AV.own 0 0)), (8, (AV.pv (PV.int .i64 i16))), (10, (AV.gm 1)), (11, (AV.view 3 0 none)), (51, (AV.pv (PV.slice 0 l17))), (52, (AV.pv (PV.int .i64 i18))), (53, (AV.pv (PV.int .i64 i19)))] [(Ob.var false 3 (AV.agg [(AV.nil 0), (AV.nil 0)])), (Ob.grp 0 none m20), (Ob.row true 0 0 l21), (Ob.row false 0 3 l22)])
noncomputable def J_bag_Group_3 (i30 : Int) (l31 : List PV) (l32 : List PV) (l33 : List PV) (i34 : Int) (l35 : List PV) (l36 : List PV) (i37 : Int) (i38 : Int) (m39 : List (PV × PV)) (l40 : List PV) (l41 : List PV) (i42 : Int) (i43 : Int) : Option PV := jF29 [1, 1, 1, 0, 0, 1, 1, 4, 0, 1, 0, 1, 1, 1, 1, 1, 1] (St.mk [(1, (AV.pv (PV.int .i64 i30))), (2, (AV.pv (PV.slice 0 l31))), (3, (AV.pv (PV.imm 3 (PV.agg [(PV.slice 0 l32), (PV.slice 0 l33)]) 0))), (6, (AV.own 0 0)), (8, (AV.pv (PV.int .i64 i34))), (10, (AV.gm 1)), (11, (AV.view 3 0 none)), (13, (AV.pv (PV.slice 3 l35))), (14, (AV.own 4 0)), (51, (AV.pv (PV.slice 0 l36))), (52, (AV.pv (PV.int .i64 i37))), (53, (AV.pv (PV.int .i64 i38)))] [(Ob.var false 3 (AV.agg [(AV.nil 0), (AV.nil 0)])), (Ob.grp 0 none m39), (Ob.row true 0 0 l40), (Ob.row false 0 3 l41), (Ob.var false 3 (AV.pv (PV.agg [(PV.int .i64 i42), (PV.int .i64 i43)])))])
noncomputable def L_bag_Group_4 (l48 : List PV) (l49 : List PV) (l50 : List PV) (i51 : Int) (i52 : Int) (m53 : List (PV × PV)) (l54 : List PV) (l55 : List PV) (l56 : List PV) (l57 : List PV) (l58 : List PV) (l59 : List PV) : Option PV := lF29 [0, 1, 0, 1, 1, 1, 1, 1, 1, 1, 1, 1] 9 (St.mk [(2, (AV.pv (PV.slice 0 l48))), (3, (AV.pv (PV.imm 3 (PV.agg [(PV.slice 0 l49), (PV.slice 0 l50)]) 0))), (6, (AV.own 0 0)), (10, (AV.gm 1)), (11, (AV.view 3 0 none)), (15, (AV.own 7 0)), (84, (AV.pv (PV.int .i64 i51))), (85, (AV.pv (PV.int .i64 i52)))] [(Ob.var false 3 (AV.agg [(AV.nil 0), (AV.nil 0)])), (Ob.grp 0 none m53), (Ob.row true 0 0 l54), (Ob.row false 0 3 l55), (Ob.row false 0 0 l56), (Ob.row false 0 0 l57), (Ob.row false 0 0 l58), (Ob.var false 3 (AV.agg [(AV.view 4 0 none), (AV.view 8 0 none)])), (Ob.row false 0 0 l59)])
noncomputable def L_bag_Group_5 (l62 : List PV) (l63 : List PV) (l64 : List PV) (i65 : Int) (i66 : Int) (m67 : List (PV × PV)) (l68 : List PV) (l69 : List PV) (l70 : List PV) (l71 : List PV) (l72 : List PV) (l73 : List PV) : Option PV := lF29 [0, 1, 0, 1, 1, 1, 1, 1, 1, 1, 1, 1, 1] 9 (St.mk [(2, (AV.pv (PV.slice 0 l62))), (3, (AV.pv (PV.imm 3 (PV.agg [(PV.slice 0 l63), (PV.slice 0 l64)]) 0))), (6, (AV.own 0 0)), (10, (AV.gm 1)), (15, (AV.own 7 0)), (96, (AV.view 3 0 none)), (97, (AV.pv (PV.int .i64 i65))), (98, (AV.pv (PV.int .i64 i66)))] [(Ob.var false 3 (AV.agg [(AV.nil 0), (AV.nil 0)])), (Ob.grp 0 none m67), (Ob.row true 0 0 l68), (Ob.row false 0 3 l69), (Ob.row false 0 0 l70), (Ob.row false 0 0 l71), (Ob.row false 0 0 l72), (Ob.var false 3 (AV.agg [(AV.view 4 0 none), (AV.view 8 0 none)])), (Ob.row false 0 0 l73)])
noncomputable def L_bag_Group_6 (l82 : List PV) (l83 : List PV) (l84 : List PV) (i85 : Int) (i86 : Int) (l87 : List PV) (i88 : Int) (i89 : Int) (m90 : List (PV × PV)) (l91 : List PV) (l92 : List PV) (l93 : List PV) (l94 : List PV) (l95 : List PV) (l96 : List PV) (i97 : Int) (i98 : Int) (l99 : List PV) : Option PV := lF29 [0, 1, 0, 1, 1, 0, 0, 1, 1, 9, 0, 1, 0, 1, 1, 1, 1, 1, 1, 1, 1, 1, 1] 11 (St.mk [(2, (AV.pv (PV.slice 0 l82))), (3, (AV.pv (PV.imm 3 (PV.agg [(PV.slice 0 l83), (PV.slice 0 l84)]) 0))), (6, (AV.own 0 0)), (10, (AV.gm 1)), (15, (AV.own 7 0)), (18, (AV.own 9 0)), (19, (AV.view 10 0 none)), (96, (AV.view 3 0 none)), (97, (AV.pv (PV.int .i64 i85))), (98, (AV.pv (PV.int .i64 i86))), (113, (AV.pv (PV.slice 0 l87))), (114, (AV.pv (PV.int .i64 i88))), (115, (AV.pv (PV.int .i64 i89)))] [(Ob.var false 3 (AV.agg [(AV.nil 0), (AV.nil 0)])), (Ob.grp 0 none m90), (Ob.row true 0 0 l91), (Ob.row false 0 3 l92), (Ob.row false 0 0 l93), (Ob.row false 0 0 l94), (Ob.row false 0 0 l95), (Ob.var false 3 (AV.agg [(AV.view 4 0 none), (AV.view 8 0 none)])), (Ob.row false 0 0 l96), (Ob.var false 3 (AV.pv (PV.agg [(PV.int .i64 i97), (PV.int .i64 i98)]))), (Ob.row false 0 3 l99)])
noncomputable def L_bag_Group_7 (l106 : List PV) (l107 : List PV) (l108 : List PV) (i109 : Int) (i110 : Int) (i111 : Int) (l112 : List PV) (i113 : Int) (i114 : Int) (p115 : PV) (i116 : Int) (i117 : Int) (m118 : List (PV × PV)) (l119 : List PV) (l120 : List PV) (l121 : List PV) (l122 : List PV) (l123 : List PV) (l124 : List PV) (i125 : Int) (i126 : Int) (l127 : List PV) (l128 : List PV) : Option PV := lF29 [0, 1, 0, 1, 1, 1, 0, 0, 1, 1, 11, 0, 1, 0, 1, 1, 0, 0, 1, 1, 9, 0, 1, 0, 1, 1, 1, 1, 1, 1, 1, 1, 1, 1] 12 (St.mk [(2, (AV.pv (PV.slice 0 l106))), (3, (AV.pv (PV.imm 3 (PV.agg [(PV.slice 0 l107), (PV.slice 0 l108)]) 0))), (6, (AV.own 0 0)), (10, (AV.gm 1)), (15, (AV.own 7 0)), (18, (AV.own 9 0)), (19, (AV.view 10 0 none)), (22, (AV.pv (PV.int .i64 i109))), (23, (AV.view 11 0 none)), (96, (AV.view 3 0 none)), (97, (AV.pv (PV.int .i64 i110))), (98, (AV.pv (PV.int .i64 i111))), (113, (AV.pv (PV.slice 0 l112))), (114, (AV.pv (PV.int .i64 i113))), (115, (AV.pv (PV.int .i64 i114))), (125, (AV.pv p115)), (126, (AV.pv (PV.int .i64 i116))), (127, (AV.pv (PV.int .i64 i117)))] [(Ob.var false 3 (AV.agg [(AV.nil 0), (AV.nil 0)])), (Ob.grp 0 none m118), (Ob.row true 0 0 l119), (Ob.row false 0 3 l120), (Ob.row false 0 0 l121), (Ob.row false 0 0 l122), (Ob.row false 0 0 l123), (Ob.var false 3 (AV.agg [(AV.view 4 0 none), (AV.view 8 0 none)])), (Ob.row false 0 0 l124), (Ob.var false 3 (AV.pv (PV.agg [(PV.int .i64 i125), (PV.int .i64 i126)]))), (Ob.row false 0 3 l127), (Ob.row false 0 3 l128)])
theorem J_bag_Group_1_eq (i7 : Int) (l8 : List PV) (l9 : List PV) (l10 : List PV) (i11 : Int) : J_bag_Group_1 i7 l8 l9 l10 i11 =
  (L_bag_Group_2 i7 l8 l9 l10 i11 l10 (((List.length l10) : Nat) : Int) (0 : Int) [] [] []) := (T29.join [1, 1, 1, 1] _).trans (by kernel_rfl)
theorem L_bag_Group_2_eq (i12 : Int) (l13 : List PV) (l14 : List PV) (l15 : List PV) (i16 : Int) (l17 : List PV) (i18 : Int) (i19 : Int) (m20 : List (PV × PV)) (l21 : List PV) (l22 : List PV) : L_bag_Group_2 i12 l13 l14 l15 i16 l17 i18 i19 m20 l21 l22 =
  (bif (decide (i19 < i18)) then (bif (decide ((0 : Int) ≤ i19)) then (((l17)[(Int.toNat i19)]?).bind (fun v23 => (c_s3 v23 (fun v24 => (((wc W n_bag_of [(PV.slice 3 v24), (PV.int .i64 i16)])).bind (fun v25 => (c_g_i64_i64 v25 (fun v26 v27 => (((mfind (eqP Cf.cfg (6 : Nat) (84 : TypeId)) (PV.agg [(PV.int .i64 v26), (PV.int .i64 v27)]) m20)).bind (fun v28 => (((PV.asSlice 0 (Option.getD v28 (PV.slice 0 [])))).bind (fun v29 => (bif ((((List.length v29) : Nat) : Int) == (0 : Int)) then (bif (true && (decide (((List.length l22) + 1 : Nat) ≤ 4294967296))) then (J_bag_Group_3 i12 l13 l14 l15 i16 v24 l17 i18 i19 m20 l21 (l22 ++ [(PV.agg [(PV.int .i64 v26), (PV.int .i64 v27)])]) v26 v27) else none) else (J_bag_Group_3 i12 l13 l14 l15 i16 v24 l17 i18 i19 m20 l21 l22 v26 v27)))))))))))))) else none) else (((W n_slices_SortFunc_bag_key_bag_key false [(AV.fx 0 3), (AV.pv (PV.fn n_bag_compare [] []))] [(Ob.fix 0 3 l22)])).bind (fun v45 => (k_a0f1d3 v45 (fun v46 v47 => (L_bag_Group_4 l13 l14 l15 (((List.length l13) : Nat) : Int) (0 : Int) m20 l21 v47 [(PV.int .i64 i12), (PV.int .i64 (16 : Int))] [] [] [])))))) := (T29.loop [1, 1, 1, 1, 1, 1, 0, 1, 0] 4 _ rfl).trans (by kernel_rfl)
theorem J_bag_Group_3_eq (i30 : Int) (l31 : List PV) (l32 : List PV) (l33 : List PV) (i34 : Int) (l35 : List PV) (l36 : List PV) (i37 : Int) (i38 : Int) (m39 : List (PV × PV)) (l40 : List PV) (l41 : List PV) (i42 : Int) (i43 : Int) : J_bag_Group_3 i30 l31 l32 l33 i34 l35 l36 i37 i38 m39 l40 l41 i42 i43 =
  (((gidx (eqP Cf.cfg (6 : Nat) (84 : TypeId)) (PV.agg [(PV.int .i64 i42), (PV.int .i64 i43)]) m39)).bind (fun v60 => (((grow_ 0 v60 m39)).bind (fun v61 => (bif (true && (decide (((List.length v61) + 1 : Nat) ≤ 4294967296))) then (bif ((((decide (((v60 : Nat) : Int) = ((v60 : Nat) : Int))) && true) && true) && true) then (L_bag_Group_2 i30 l31 l32 l33 i34 l36 i37 (IntKind.wrap .i64 (i38 + (1 : Int) : Int)) (gset (PV.slice 0 (v61 ++ [(PV.slice 3 l35)])) v60 (gput (PV.agg [(PV.int .i64 i42), (PV.int .i64 i43)]) 0 v60 m39)) [] l41) else none) else none))))) := (T29.join [1, 1, 1, 1, 1, 1, 0, 1, 0, 4, 1, 1, 0, 0, 1, 1, 1] _).trans (by kernel_rfl)
theorem L_bag_Group_4_eq (l48 : List PV) (l49 : List PV) (l50 : List PV) (i51 : Int) (i52 : Int) (m53 : List (PV × PV)) (l54 : List PV) (l55 : List PV) (l56 : List PV) (l57 : List PV) (l58 : List PV) (l59 : List PV) : L_bag_Group_4 l48 l49 l50 i51 i52 m53 l54 l55 l56 l57 l58 l59 =
  (bif (decide (i52 < i51)) then (bif (true && (decide (((List.length l56) + 1 : Nat) ≤ 4294967296))) then (L_bag_Group_4 l48 l49 l50 i51 (IntKind.wrap .i64 (i52 + (1 : Int) : Int)) m53 l54 l55 (l56 ++ [(PV.int .i64 (IntKind.wrap .i64 ((17 : Int) + i52 : Int)))]) l57 l58 l59) else none) else (L_bag_Group_5 l48 l49 l50 (((List.length l55) : Nat) : Int) (0 : Int) m53 l54 l55 l56 l57 l58 l59)) := (T29.loop [1, 1, 1, 1, 1, 1, 1, 1, 1, 0, 1, 0] 9 _ rfl).trans (by kernel_rfl)
theorem L_bag_Group_5_eq (l62 : List PV) (l63 : List PV) (l64 : List PV) (i65 : Int) (i66 : Int) (m67 : List (PV × PV)) (l68 : List PV) (l69 : List PV) (l70 : List PV) (l71 : List PV) (l72 : List PV) (l73 : List PV) : L_bag_Group_5 l62 l63 l64 i65 i66 m67 l68 l69 l70 l71 l72 l73 =
  (bif (decide (i66 < i65)) then (bif ((true && (decide ((0 : Int) ≤ i66))) && (decide (i66 < (((List.length l69) : Nat) : Int)))) then (((l69)[(0 + (Int.toNat i66) : Nat)]?).bind (fun v74 => (c_g_i64_i64 v74 (fun v75 v76 => (((mfind (eqP Cf.cfg (6 : Nat) (84 : TypeId)) (PV.agg [(PV.int .i64 v75), (PV.int .i64 v76)]) m67)).bind (fun v77 => (((PV.asSlice 0 (Option.getD v77 (PV.slice 0 [])))).bind (fun v78 => (((wc W n_val_Of [(PV.int .i64 (((List.length v78) : Nat) : Int))])).bind (fun v79 => (c_g_i64_i64 v79 (fun v80 v81 => (L_bag_Group_6 l62 l63 l64 i65 i66 l62 (((List.length l62) : Nat) : Int) (0 : Int) m67 l68 l69 l70 l71 l72 l73 v75 v76 [(PV.agg [(PV.int .i64 v75), (PV.int .i64 v76)]), (PV.agg [(PV.int .i64 v80), (PV.int .i64 v81)])]))))))))))))) else none) else (some (PV.tup [(PV.agg [(PV.slice 0 l70), (PV.slice 0 l73)]), (PV.bool true)]))) := (T29.loop [1, 1, 1, 1, 1, 1, 1, 1, 1, 1, 0, 1, 0] 9 _ rfl).trans (by kernel_rfl)
theorem L_bag_Group_6_eq (l82 : List PV) (l83 : List PV) (l84 : List PV) (i85 : Int) (i86 : Int) (l87 : List PV) (i88 : Int) (i89 : Int) (m90 : List (PV × PV)) (l91 : List PV) (l92 : List PV) (l93 : List PV) (l94 : List PV) (l95 : List PV) (l96 : List PV) (i97 : Int) (i98 : Int) (l99 : List PV) : L_bag_Group_6 l82 l83 l84 i85 i86 l87 i88 i89 m90 l91 l92 l93 l94 l95 l96 i97 i98 l99 =
  (bif (decide (i89 < i88)) then (bif (decide ((0 : Int) ≤ i89)) then (((l87)[(Int.toNat i89)]?).bind (fun v100 => (c_i64 v100 (fun v101 => (((wc W n_slices_Index_int_int [(PV.slice 0 l83), (PV.int .i64 v101)])).bind (fun v102 => (c_i64 v102 (fun v103 => (((mfind (eqP Cf.cfg (6 : Nat) (84 : TypeId)) (PV.agg [(PV.int .i64 i97), (PV.int .i64 i98)]) m90)).bind (fun v104 => (((PV.asSlice 0 (Option.getD v104 (PV.slice 0 [])))).bind (fun v105 => (L_bag_Group_7 l82 l83 l84 v103 i85 i86 l87 i88 i89 (Option.getD v104 (PV.slice 0 [])) (((List.length v105) : Nat) : Int) (0 : Int) m90 l91 l92 l93 l94 l95 l96 i97 i98 l99 []))))))))))))) else none) else (bif (true && (decide (((List.length l96) + 1 : Nat) ≤ 4294967296))) then (L_bag_Group_5 l82 l83 l84 i85 (IntKind.wrap .i64 (i86 + (1 : Int) : Int)) m90 l91 l92 l93 l94 l95 (l96 ++ [(PV.slice 3 l99)])) else none)) := (T29.loop [1, 1, 1, 1, 1, 1, 1, 1, 1, 1, 0, 1, 0, 9, 1, 1, 0, 0, 1, 1, 0, 1, 0] 11 _ rfl).trans (by kernel_rfl)
theorem L_bag_Group_7_eq (l106 : List PV) (l107 : List PV) (l108 : List PV) (i109 : Int) (i110 : Int) (i111 : Int) (l112 : List PV) (i113 : Int) (i114 : Int) (p115 : PV) (i116 : Int) (i117 : Int) (m118 : List (PV × PV)) (l119 : List PV) (l120 : List PV) (l121 : List PV) (l122 : List PV) (l123 : List PV) (l124 : List PV) (i125 : Int) (i126 : Int) (l127 : List PV) (l128 : List PV) : L_bag_Group_7 l106 l107 l108 i109 i110 i111 l112 i113 i114 p115 i116 i117 m118 l119 l120 l121 l122 l123 l124 i125 i126 l127 l128 =
  (bif (decide (i117 < i116)) then (((PV.asSlice 0 p115)).bind (fun v129 => (bif (decide ((0 : Int) ≤ i117)) then (((v129)[(Int.toNat i117)]?).bind (fun v130 => (c_s3 v130 (fun v131 => (bif (decide ((0 : Int) ≤ i109)) then (((v131)[(Int.toNat i109)]?).bind (fun v132 => (c_g_i64_i64 v132 (fun v133 v134 => (bif (true && (decide (((List.length l128) + 1 : Nat) ≤ 4294967296))) then (L_bag_Group_7 l106 l107 l108 i109 i110 i111 l112 i113 i114 p115 i116 (IntKind.wrap .i64 (i117 + (1 : Int) : Int)) m118 l119 l120 l121 l122 l123 l124 i125 i126 l127 (l128 ++ [(PV.agg [(PV.int .i64 v133), (PV.int .i64 v134)])])) else none))))) else none))))) else none))) else (((wc W n_val_Sum [(PV.slice 3 l128)])).bind (fun v135 => (c_g_i64_i64 v135 (fun v136 v137 => (bif (true && (decide (((List.length l127) + 1 : Nat) ≤ 4294967296))) then (L_bag_Group_6 l106 l107 l108 i110 i111 l112 i113 (IntKind.wrap .i64 (i114 + (1 : Int) : Int)) m118 l119 l120 l121 l122 l123 l124 i125 i126 (l127 ++ [(PV.agg [(PV.int .i64 v136), (PV.int .i64 v137)])])) else none)))))) := (T29.loop [1, 1, 1, 1, 1, 1, 1, 1, 1, 1, 0, 1, 0, 9, 1, 1, 0, 0, 1, 1, 0, 1, 0, 11, 1, 1, 0, 0, 1, 1, 1, 0, 1, 0] 12 _ rfl).trans (by kernel_rfl)
theorem e_bag_Group (a0_0 : List PV) (a0_1 : List PV) (a1 : Int) (a2 : List PV) : wc W n_bag_Group [(PV.agg [(PV.slice 0 a0_0), (PV.slice 0 a0_1)]), (PV.int .i64 a1), (PV.slice 0 a2)] =
  (((wc W n_slices_Index_int_int [(PV.slice 0 a0_0), (PV.int .i64 a1)])).bind (fun v1 => (c_i64 v1 (fun v2 => (((wc W n_bag_May [(PV.agg [(PV.slice 0 a0_0), (PV.slice 0 a0_1)])])).bind (fun v3 => (c_b v3 (fun v4 => (bif (!v4) then (some (PV.tup [(PV.agg [(PV.slice 0 []), (PV.slice 0 [])]), (PV.bool false)])) else (bif (decide (v2 < (0 : Int))) then (some (PV.tup [(PV.agg [(PV.slice 0 []), (PV.slice 0 [])]), (PV.bool false)])) else (bif (decide (GT.gt (((List.length a2) : Nat) : Int) (4 : Int))) then (some (PV.tup [(PV.agg [(PV.slice 0 []), (PV.slice 0 [])]), (PV.bool false)])) else (((wc W n_slices_ContainsFunc_int_int [(PV.slice 0 a2), (PV.fn n_bag_Group_1 [] [(PV.imm 3 (PV.agg [(PV.slice 0 a0_0), (PV.slice 0 a0_1)]) 0)])])).bind (fun v5 => (c_b v5 (fun v6 => (bif v6 then (some (PV.tup [(PV.agg [(PV.slice 0 []), (PV.slice 0 [])]), (PV.bool false)])) else (J_bag_Group_1 a1 a2 a0_0 a0_1 v2))))))))))))))))) := go (by kernel_rfl) (by kernel_rfl) T29 (by kernel_rfl)
noncomputable def jF30 : Jn PV := (Classical.choose (exT fi30 (fin cfg fi30))).1
noncomputable def lF30 : Ln PV := (Classical.choose (exT fi30 (fin cfg fi30))).2
theorem T30 : Tied cfg W fi30 (fin cfg fi30) jF30 lF30 := Classical.choose_spec (exT fi30 (fin cfg fi30))
theorem e_bag_Sort (a0_0 : List PV) (a0_1 : List PV) (a1 : Int) : wc W n_bag_Sort [(PV.agg [(PV.slice 0 a0_0), (PV.slice 0 a0_1)]), (PV.int .i64 a1)] =
  (((W n_bag_some true [(AV.pv (PV.agg [(PV.slice 0 a0_0), (PV.slice 0 a0_1)])), (AV.pv (PV.fn n_bag_Sort_1 [] []))] [])).bind (fun v3 => (k_8de13e v3 (fun v4 v5 => (((wc W n_slices_Index_int_int [(PV.slice 0 a0_0), (PV.int .i64 a1)])).bind (fun v6 => (c_i64 v6 (fun v7 => (((W n_slices_SortStableFunc_api_Val_api_Val false [(AV.fx 0 0), (AV.fnv n_bag_Sort_2 [] [(AV.own 1 0)])] [(Ob.fix 0 0 v5), (Ob.var false 0 (AV.pv (PV.int .i64 v7)))])).bind (fun v10 => (k_c4d914 v10 (fun v11 v12 v13 => (some (PV.agg [(PV.slice 0 v4), (PV.slice 0 v12)])))))))))))))) := go (by kernel_rfl) (by kernel_rfl) T30 (by kernel_rfl)
noncomputable def jF31 : Jn PV := (Classical.choose (exT fi31 (fin cfg fi31))).1
noncomputable def lF31 : Ln PV := (Classical.choose (exT fi31 (fin cfg fi31))).2
theorem T31 : Tied cfg W fi31 (fin cfg fi31) jF31 lF31 := Classical.choose_spec (exT fi31 (fin cfg fi31))
theorem e_bag_Sorted (a0_0 : List PV) (a0_1 : List PV) (a1 : Int) : wc W n_bag_Sorted [(PV.agg [(PV.slice 0 a0_0), (PV.slice 0 a0_1)]), (PV.int .i64 a1)] =
  (((wc W n_slices_Index_int_int [(PV.slice 0 a0_0), (PV.int .i64 a1)])).bind (fun v1 => (c_i64 v1 (fun v2 => (((W n_slices_IsSortedFunc_api_Val_api_Val false [(AV.pv (PV.slice 0 a0_1)), (AV.fnv n_bag_Sorted_1 [] [(AV.own 0 0)])] [(Ob.var false 0 (AV.pv (PV.int .i64 v2)))])).bind (fun v5 => (k_5b106d v5 (fun v6 v7 => (c_b v6 (fun v8 => (some (PV.bool v8)))))))))))) := go (by kernel_rfl) (by kernel_rfl) T31 (by kernel_rfl)
noncomputable def jF42 : Jn PV := (Classical.choose (exT fi42 (fin cfg fi42))).1
noncomputable def lF42 : Ln PV := (Classical.choose (exT fi42 (fin cfg fi42))).2
theorem T42 : Tied cfg W fi42 (fin cfg fi42) jF42 lF42 := Classical.choose_spec (exT fi42 (fin cfg fi42))
noncomputable def L_roadbookref02_Ints_1 (l1 : List PV) (l2 : List PV) (i3 : Int) : Option PV := lF42 [0, 1, 0, 1, 1] 0 (St.mk [(0, (AV.pv (PV.slice 0 l1))), (1, (AV.pv (PV.slice 0 l2))), (5, (AV.pv (PV.int .i64 i3)))] [])
theorem L_roadbookref02_Ints_1_eq (l1 : List PV) (l2 : List PV) (i3 : Int) : L_roadbookref02_Ints_1 l1 l2 i3 =
  (bif (decide (i3 < (((List.length l1) : Nat) : Int))) then (bif (decide ((0 : Int) ≤ i3)) then (((l1)[(Int.toNat i3)]?).bind (fun v4 => (c_i64 v4 (fun v5 => (bif (decide ((0 : Int) ≤ i3)) then (((l2)[(Int.toNat i3)]?).bind (fun v6 => (c_i64 v6 (fun v7 => (bif (v5 != v7) then (some (PV.bool false)) else (L_roadbookref02_Ints_1 l1 l2 (IntKind.wrap .i64 (i3 + (1 : Int) : Int)))))))) else none))))) else none) else (some (PV.bool true))) := (T42.loop [1, 1, 0, 1, 0] 0 _ rfl).trans (by kernel_rfl)
theorem e_roadbookref02_Ints (a0 : List PV) (a1 : List PV) : wc W n_roadbookref02_Ints [(PV.slice 0 a0), (PV.slice 0 a1)] =
  (bif ((((List.length a0) : Nat) : Int) != (((List.length a1) : Nat) : Int)) then (some (PV.bool false)) else (L_roadbookref02_Ints_1 a0 a1 (0 : Int))) := go (by kernel_rfl) (by kernel_rfl) T42 (by kernel_rfl)
noncomputable def jF46 : Jn PV := (Classical.choose (exT fi46 (fin cfg fi46))).1
noncomputable def lF46 : Ln PV := (Classical.choose (exT fi46 (fin cfg fi46))).2
theorem T46 : Tied cfg W fi46 (fin cfg fi46) jF46 lF46 := Classical.choose_spec (exT fi46 (fin cfg fi46))
theorem e_bag_May_1 (a0_0 : Int) (a0_1 : Int) : wc W n_bag_May_1 [(PV.agg [(PV.int .i64 a0_0), (PV.int .i64 a0_1)])] =
  (((wc W n_val_May [(PV.agg [(PV.int .i64 a0_0), (PV.int .i64 a0_1)])])).bind (fun v1 => (c_b v1 (fun v2 => (some (PV.bool (!v2))))))) := go (by kernel_rfl) (by kernel_rfl) T46 (by kernel_rfl)
noncomputable def jF47 : Jn PV := (Classical.choose (exT fi47 (fin cfg fi47))).1
noncomputable def lF47 : Ln PV := (Classical.choose (exT fi47 (fin cfg fi47))).2
theorem T47 : Tied cfg W fi47 (fin cfg fi47) jF47 lF47 := Classical.choose_spec (exT fi47 (fin cfg fi47))
theorem e_val_May (a0_0 : Int) (a0_1 : Int) : wc W n_val_May [(PV.agg [(PV.int .i64 a0_0), (PV.int .i64 a0_1)])] =
  (bif (decide (GE.ge a0_0 (0 : Int))) then (bif (decide (a0_0 < (3 : Int))) then (bif (a0_0 == (0 : Int)) then (some (PV.bool true)) else (some (PV.bool (a0_1 == (0 : Int))))) else (some (PV.bool false))) else (some (PV.bool false))) := go (by kernel_rfl) (by kernel_rfl) T47 (by kernel_rfl)
noncomputable def jF48 : Jn PV := (Classical.choose (exT fi48 (fin cfg fi48))).1
noncomputable def lF48 : Ln PV := (Classical.choose (exT fi48 (fin cfg fi48))).2
theorem T48 : Tied cfg W fi48 (fin cfg fi48) jF48 lF48 := Classical.choose_spec (exT fi48 (fin cfg fi48))
theorem e_slices_ContainsFunc_api_Val_api_Val_c5fc (a0 : List PV) (a1 : PV) : wc W n_slices_ContainsFunc_api_Val_api_Val_c5fc [(PV.slice 3 a0), a1] =
  (((wc W n_slices_IndexFunc_api_Val_api_Val_b1f6 [(PV.slice 3 a0), a1])).bind (fun v1 => (c_i64 v1 (fun v2 => (some (PV.bool (decide (GE.ge v2 (0 : Int))))))))) := go (by kernel_rfl) (by kernel_rfl) T48 (by kernel_rfl)
noncomputable def jF50 : Jn PV := (Classical.choose (exT fi50 (fin cfg fi50))).1
noncomputable def lF50 : Ln PV := (Classical.choose (exT fi50 (fin cfg fi50))).2
theorem T50 : Tied cfg W fi50 (fin cfg fi50) jF50 lF50 := Classical.choose_spec (exT fi50 (fin cfg fi50))
noncomputable def L_slices_Index_int_int_1 (l1 : List PV) (i2 : Int) (i3 : Int) (i4 : Int) : Option PV := lF50 [0, 1, 0, 1] 0 (St.mk [(0, (AV.pv (PV.slice 0 l1))), (1, (AV.pv (PV.int .i64 i2))), (7, (AV.pv (PV.int .i64 i3))), (8, (AV.pv (PV.int .i64 i4)))] [])
theorem L_slices_Index_int_int_1_eq (l1 : List PV) (i2 : Int) (i3 : Int) (i4 : Int) : L_slices_Index_int_int_1 l1 i2 i3 i4 =
  (bif (decide (i4 < i3)) then (bif (decide ((0 : Int) ≤ i4)) then (((l1)[(Int.toNat i4)]?).bind (fun v5 => (c_i64 v5 (fun v6 => (bif (i2 == v6) then (some (PV.int .i64 i4)) else (L_slices_Index_int_int_1 l1 i2 i3 (IntKind.wrap .i64 (i4 + (1 : Int) : Int)))))))) else none) else (some (PV.int .i64 (-1 : Int)))) := (T50.loop [1, 0, 1, 0] 0 _ rfl).trans (by kernel_rfl)
theorem e_slices_Index_int_int (a0 : List PV) (a1 : Int) : wc W n_slices_Index_int_int [(PV.slice 0 a0), (PV.int .i64 a1)] =
  (L_slices_Index_int_int_1 a0 a1 (((List.length a0) : Nat) : Int) (0 : Int)) := go (by kernel_rfl) (by kernel_rfl) T50 (by kernel_rfl)
noncomputable def jF51 : Jn PV := (Classical.choose (exT fi51 (fin cfg fi51))).1
noncomputable def lF51 : Ln PV := (Classical.choose (exT fi51 (fin cfg fi51))).2
theorem T51 : Tied cfg W fi51 (fin cfg fi51) jF51 lF51 := Classical.choose_spec (exT fi51 (fin cfg fi51))
theorem e_bag_Group_1 (a0 : Int) (c0_0 : List PV) (c0_1 : List PV) : wc W n_bag_Group_1 [(PV.int .i64 a0), (PV.imm 3 (PV.agg [(PV.slice 0 c0_0), (PV.slice 0 c0_1)]) 0)] =
  (((wc W n_slices_Contains_int_int [(PV.slice 0 c0_0), (PV.int .i64 a0)])).bind (fun v1 => (c_b v1 (fun v2 => (some (PV.bool (!v2))))))) := go (by kernel_rfl) (by kernel_rfl) T51 (by kernel_rfl)
noncomputable def jF52 : Jn PV := (Classical.choose (exT fi52 (fin cfg fi52))).1
noncomputable def lF52 : Ln PV := (Classical.choose (exT fi52 (fin cfg fi52))).2
theorem T52 : Tied cfg W fi52 (fin cfg fi52) jF52 lF52 := Classical.choose_spec (exT fi52 (fin cfg fi52))
theorem e_slices_Contains_int_int (a0 : List PV) (a1 : Int) : wc W n_slices_Contains_int_int [(PV.slice 0 a0), (PV.int .i64 a1)] =
  (((wc W n_slices_Index_int_int [(PV.slice 0 a0), (PV.int .i64 a1)])).bind (fun v1 => (c_i64 v1 (fun v2 => (some (PV.bool (decide (GE.ge v2 (0 : Int))))))))) := go (by kernel_rfl) (by kernel_rfl) T52 (by kernel_rfl)
end Go.Cf

namespace Go.Cf
open Go Go.Ab
set_option linter.unusedVariables false
set_option maxRecDepth 100000
noncomputable def jF53 : Jn PV := (Classical.choose (exT fi53 (fin cfg fi53))).1
noncomputable def lF53 : Ln PV := (Classical.choose (exT fi53 (fin cfg fi53))).2
theorem T53 : Tied cfg W fi53 (fin cfg fi53) jF53 lF53 := Classical.choose_spec (exT fi53 (fin cfg fi53))
theorem e_slices_ContainsFunc_int_int (a0 : List PV) (a1 : PV) : wc W n_slices_ContainsFunc_int_int [(PV.slice 0 a0), a1] =
  (((wc W n_slices_IndexFunc_int_int [(PV.slice 0 a0), a1])).bind (fun v1 => (c_i64 v1 (fun v2 => (some (PV.bool (decide (GE.ge v2 (0 : Int))))))))) := go (by kernel_rfl) (by kernel_rfl) T53 (by kernel_rfl)
noncomputable def jF54 : Jn PV := (Classical.choose (exT fi54 (fin cfg fi54))).1
noncomputable def lF54 : Ln PV := (Classical.choose (exT fi54 (fin cfg fi54))).2
theorem T54 : Tied cfg W fi54 (fin cfg fi54) jF54 lF54 := Classical.choose_spec (exT fi54 (fin cfg fi54))
noncomputable def J_bag_of_1 (l1 : List PV) (i2 : Int) (i3 : Int) (i4 : Int) : Option PV := jF54 [1, 1] (St.mk [(0, (AV.pv (PV.slice 3 l1))), (1, (AV.pv (PV.int .i64 i2))), (4, (AV.own 0 0))] [(Ob.var false 3 (AV.pv (PV.agg [(PV.int .i64 i3), (PV.int .i64 i4)])))])
noncomputable def J_bag_of_2 (i10 : Int) (i11 : Int) (i12 : Int) (i13 : Int) : Option PV := jF54 [1, 1, 1, 1] (St.mk [(4, (AV.own 0 0)), (5, (AV.own 1 0))] [(Ob.var false 3 (AV.pv (PV.agg [(PV.int .i64 i10), (PV.int .i64 i11)]))), (Ob.var false 3 (AV.pv (PV.agg [(PV.int .i64 i12), (PV.int .i64 i13)])))])
theorem J_bag_of_1_eq (l1 : List PV) (i2 : Int) (i3 : Int) (i4 : Int) : J_bag_of_1 l1 i2 i3 i4 =
  (bif (decide ((0 : Int) ≤ i2)) then (((l1)[(Int.toNat i2)]?).bind (fun v5 => (c_g_i64_i64 v5 (fun v6 v7 => (((wc W n_val_May [(PV.agg [(PV.int .i64 v6), (PV.int .i64 v7)])])).bind (fun v8 => (c_b v8 (fun v9 => (bif (!v9) then (J_bag_of_2 i3 i4 (2 : Int) (0 : Int)) else (J_bag_of_2 i3 i4 v6 v7)))))))))) else none) := (T54.join [1, 1] _).trans (by kernel_rfl)
theorem J_bag_of_2_eq (i10 : Int) (i11 : Int) (i12 : Int) (i13 : Int) : J_bag_of_2 i10 i11 i12 i13 =
  (some (PV.agg [(PV.int .i64 i12), (PV.int .i64 i13)])) := (T54.join [1, 1, 1, 1] _).trans (by kernel_rfl)
theorem e_bag_of (a0 : List PV) (a1 : Int) : wc W n_bag_of [(PV.slice 3 a0), (PV.int .i64 a1)] =
  (bif (decide (a1 < (0 : Int))) then (some (PV.agg [(PV.int .i64 (0 : Int)), (PV.int .i64 (0 : Int))])) else (bif (decide (GE.ge a1 (((List.length a0) : Nat) : Int))) then (some (PV.agg [(PV.int .i64 (0 : Int)), (PV.int .i64 (0 : Int))])) else (J_bag_of_1 a0 a1 (0 : Int) (0 : Int)))) := go (by kernel_rfl) (by kernel_rfl) T54 (by kernel_rfl)
noncomputable def jF56 : Jn PV := (Classical.choose (exT fi56 (fin cfg fi56))).1
noncomputable def lF56 : Ln PV := (Classical.choose (exT fi56 (fin cfg fi56))).2
theorem T56 : Tied cfg W fi56 (fin cfg fi56) jF56 lF56 := Classical.choose_spec (exT fi56 (fin cfg fi56))
theorem e_bag_compare (a0_0 : Int) (a0_1 : Int) (a1_0 : Int) (a1_1 : Int) : wc W n_bag_compare [(PV.agg [(PV.int .i64 a0_0), (PV.int .i64 a0_1)]), (PV.agg [(PV.int .i64 a1_0), (PV.int .i64 a1_1)])] =
  (((((bif (a0_0 == a1_0) then (bif (a0_1 == a1_1) then (some true) else (some false)) else (some false))).bind (fun v1 => (some (PV.bool v1))))).bind (fun v2 => (c_b v2 (fun v3 => (bif v3 then (some (PV.int .i64 (0 : Int))) else (((wc W n_slices_Compare_int_int [(PV.slice 0 [(PV.int .i64 a0_0), (PV.int .i64 a0_1)]), (PV.slice 0 [(PV.int .i64 a1_0), (PV.int .i64 a1_1)])])).bind (fun v4 => (c_i64 v4 (fun v5 => (some (PV.int .i64 v5))))))))))) := go (by kernel_rfl) (by kernel_rfl) T56 (by kernel_rfl)
noncomputable def jF57 : Jn PV := (Classical.choose (exT fi57 (fin cfg fi57))).1
noncomputable def lF57 : Ln PV := (Classical.choose (exT fi57 (fin cfg fi57))).2
theorem T57 : Tied cfg W fi57 (fin cfg fi57) jF57 lF57 := Classical.choose_spec (exT fi57 (fin cfg fi57))
theorem e_val_Of (a0 : Int) : wc W n_val_Of [(PV.int .i64 a0)] =
  (some (PV.agg [(PV.int .i64 (0 : Int)), (PV.int .i64 a0)])) := go (by kernel_rfl) (by kernel_rfl) T57 (by kernel_rfl)
noncomputable def jF58 : Jn PV := (Classical.choose (exT fi58 (fin cfg fi58))).1
noncomputable def lF58 : Ln PV := (Classical.choose (exT fi58 (fin cfg fi58))).2
theorem T58 : Tied cfg W fi58 (fin cfg fi58) jF58 lF58 := Classical.choose_spec (exT fi58 (fin cfg fi58))
noncomputable def L_val_Sum_1 (i7 : Int) (i8 : Int) (i9 : Int) (l10 : List PV) (i11 : Int) (i12 : Int) (i13 : Int) (i14 : Int) : Option PV := lF58 [0, 1, 0, 1, 1, 1, 1] 1 (St.mk [(2, (AV.own 0 0)), (3, (AV.pv (PV.int IntKind.u64 i7))), (4, (AV.pv (PV.int IntKind.u64 i8))), (5, (AV.pv (PV.int .i64 i9))), (14, (AV.pv (PV.slice 3 l10))), (15, (AV.pv (PV.int .i64 i11))), (16, (AV.pv (PV.int .i64 i12)))] [(Ob.var false 3 (AV.pv (PV.agg [(PV.int .i64 i13), (PV.int .i64 i14)])))])
theorem L_val_Sum_1_eq (i7 : Int) (i8 : Int) (i9 : Int) (l10 : List PV) (i11 : Int) (i12 : Int) (i13 : Int) (i14 : Int) : L_val_Sum_1 i7 i8 i9 l10 i11 i12 i13 i14 =
  (bif (decide (i12 < i11)) then (bif (decide ((0 : Int) ≤ i12)) then (((l10)[(Int.toNat i12)]?).bind (fun v15 => (c_g_i64_i64 v15 (fun v16 v17 => (bif (v16 != (0 : Int)) then (L_val_Sum_1 i7 i8 i9 l10 i11 (IntKind.wrap .i64 (i12 + (1 : Int) : Int)) i13 i14) else (((wc W n_bits_Add64 [(PV.int IntKind.u64 i8), (PV.int IntKind.u64 (IntKind.wrap .u64 v17)), (PV.int IntKind.u64 (0 : Int))])).bind (fun v18 => (((PV.asTup v18)).bind (fun v19 => (((v19)[0]?).bind (fun v20 => (c_u64 v20 (fun v21 => (((PV.asTup v18)).bind (fun v22 => (((v22)[1]?).bind (fun v23 => (c_u64 v23 (fun v24 => (L_val_Sum_1 (IntKind.wrap .u64 (i7 + (IntKind.wrap .u64 (v24 + (IntKind.wrap .u64 (Int.fdiv v17 (9223372036854775808 : Int))) : Int)) : Int)) v21 (IntKind.wrap .i64 (i9 + (1 : Int) : Int)) l10 i11 (IntKind.wrap .i64 (i12 + (1 : Int) : Int)) i13 i14)))))))))))))))))))) else none) else (bif (i9 == (0 : Int)) then (((wc W n_val_null [])).bind (fun v25 => (c_g_i64_i64 v25 (fun v26 v27 => (some (PV.agg [(PV.int .i64 v26), (PV.int .i64 v27)])))))) else (bif (i7 != (IntKind.wrap .u64 (Int.fdiv (IntKind.wrap .i64 i8) (9223372036854775808 : Int)))) then (((wc W n_val_bad [])).bind (fun v28 => (c_g_i64_i64 v28 (fun v29 v30 => (some (PV.agg [(PV.int .i64 v29), (PV.int .i64 v30)])))))) else (((wc W n_val_Of [(PV.int .i64 (IntKind.wrap .i64 i8))])).bind (fun v31 => (c_g_i64_i64 v31 (fun v32 v33 => (some (PV.agg [(PV.int .i64 v32), (PV.int .i64 v33)]))))))))) := (T58.loop [1, 1, 1, 1, 0, 1, 0] 1 _ rfl).trans (by kernel_rfl)
theorem e_val_Sum (a0 : List PV) : wc W n_val_Sum [(PV.slice 3 a0)] =
  (((wc W n_val_kind [(PV.int .i64 (2 : Int))])).bind (fun v1 => (((wc W n_val_some_api_Val [(PV.slice 3 a0), v1])).bind (fun v2 => (c_b v2 (fun v3 => (bif v3 then (((wc W n_val_bad [])).bind (fun v4 => (c_g_i64_i64 v4 (fun v5 v6 => (some (PV.agg [(PV.int .i64 v5), (PV.int .i64 v6)])))))) else (L_val_Sum_1 (0 : Int) (0 : Int) (0 : Int) a0 (((List.length a0) : Nat) : Int) (0 : Int) (0 : Int) (0 : Int))))))))) := go (by kernel_rfl) (by kernel_rfl) T58 (by kernel_rfl)
noncomputable def jF59 : Jn PV := (Classical.choose (exT fi59 (fin cfg fi59))).1
noncomputable def lF59 : Ln PV := (Classical.choose (exT fi59 (fin cfg fi59))).2
theorem T59 : Tied cfg W fi59 (fin cfg fi59) jF59 lF59 := Classical.choose_spec (exT fi59 (fin cfg fi59))
noncomputable def L_bag_some_1 (p3 : PV) (l4 : List PV) (i5 : Int) (i6 : Int) (l7 : List PV) (l8 : List PV) (l9 : List PV) (l10 : List PV) : Option PV := lF59 [0, 1, 0, 1, 1] 5 (St.mk [(1, (AV.pv p3)), (4, (AV.own 0 0)), (5, (AV.own 3 0)), (13, (AV.pv (PV.slice 0 l4))), (14, (AV.pv (PV.int .i64 i5))), (15, (AV.pv (PV.int .i64 i6)))] [(Ob.var false 3 (AV.agg [(AV.nil 0), (AV.nil 0)])), (Ob.row false 0 0 l7), (Ob.row false 0 0 l8), (Ob.var false 3 (AV.agg [(AV.pv (PV.slice 0 l9)), (AV.view 4 0 none)])), (Ob.row false 0 0 l10)])
theorem L_bag_some_1_eq (p3 : PV) (l4 : List PV) (i5 : Int) (i6 : Int) (l7 : List PV) (l8 : List PV) (l9 : List PV) (l10 : List PV) : L_bag_some_1 p3 l4 i5 i6 l7 l8 l9 l10 =
  (bif (decide (i6 < i5)) then (bif (decide ((0 : Int) ≤ i6)) then (((l4)[(Int.toNat i6)]?).bind (fun v11 => (c_s3 v11 (fun v12 => (((PV.asFn p3)).bind (fun v13 => (((wc W (Prod.fst v13) (((Prod.fst (Prod.snd v13)) ++ [(PV.slice 3 v12)]) ++ (Prod.snd (Prod.snd v13))))).bind (fun v14 => (c_b v14 (fun v15 => (bif v15 then (((wc W n_slices_Clone_api_Val_api_Val [(PV.slice 3 v12)])).bind (fun v16 => (c_s3 v16 (fun v17 => (bif (true && (decide (((List.length l10) + 1 : Nat) ≤ 4294967296))) then (L_bag_some_1 p3 l4 i5 (IntKind.wrap .i64 (i6 + (1 : Int) : Int)) l7 l8 l9 (l10 ++ [(PV.slice 3 v17)])) else none))))) else (L_bag_some_1 p3 l4 i5 (IntKind.wrap .i64 (i6 + (1 : Int) : Int)) l7 l8 l9 l10)))))))))))) else none) else (some (PV.agg [(PV.slice 0 l9), (PV.slice 0 l10)]))) := (T59.loop [1, 1, 0, 1, 0] 5 _ rfl).trans (by kernel_rfl)
theorem e_bag_some (a0_0 : List PV) (a0_1 : List PV) (a1 : PV) : wc W n_bag_some [(PV.agg [(PV.slice 0 a0_0), (PV.slice 0 a0_1)]), a1] =
  (((wc W n_slices_Clone_int_int [(PV.slice 0 a0_0)])).bind (fun v1 => (c_s0 v1 (fun v2 => (L_bag_some_1 a1 a0_1 (((List.length a0_1) : Nat) : Int) (0 : Int) [] [] v2 []))))) := go (by kernel_rfl) (by kernel_rfl) T59 (by kernel_rfl)
noncomputable def jF59r0 : Jn (AV × List Ob) := (Classical.choose (exT fi59 (finO cfg fi59 true 0))).1
noncomputable def lF59r0 : Ln (AV × List Ob) := (Classical.choose (exT fi59 (finO cfg fi59 true 0))).2
theorem T59r0 : Tied cfg W fi59 (finO cfg fi59 true 0) jF59r0 lF59r0 := Classical.choose_spec (exT fi59 (finO cfg fi59 true 0))
noncomputable def L_bag_some_r0_1 (l3 : List PV) (i4 : Int) (i5 : Int) (l6 : List PV) (l7 : List PV) (l8 : List PV) (l9 : List PV) : Option (AV × List Ob) := lF59r0 [0, 1, 0, 1, 1] 5 (St.mk [(1, (AV.pv (PV.fn n_bag_Sort_1 [] []))), (4, (AV.own 0 0)), (5, (AV.own 3 0)), (13, (AV.pv (PV.slice 0 l3))), (14, (AV.pv (PV.int .i64 i4))), (15, (AV.pv (PV.int .i64 i5)))] [(Ob.var false 3 (AV.agg [(AV.nil 0), (AV.nil 0)])), (Ob.row false 0 0 l6), (Ob.row false 0 0 l7), (Ob.var false 3 (AV.agg [(AV.pv (PV.slice 0 l8)), (AV.view 4 0 none)])), (Ob.row false 0 0 l9)])
theorem L_bag_some_r0_1_eq (l3 : List PV) (i4 : Int) (i5 : Int) (l6 : List PV) (l7 : List PV) (l8 : List PV) (l9 : List PV) : L_bag_some_r0_1 l3 i4 i5 l6 l7 l8 l9 =
  (bif (decide (i5 < i4)) then (bif (decide ((0 : Int) ≤ i5)) then (((l3)[(Int.toNat i5)]?).bind (fun v10 => (c_s3 v10 (fun v11 => (((wc W n_bag_Sort_1 [(PV.slice 3 v11)])).bind (fun v12 => (c_b v12 (fun v13 => (bif v13 then (((wc W n_slices_Clone_api_Val_api_Val [(PV.slice 3 v11)])).bind (fun v14 => (c_s3 v14 (fun v15 => (bif (true && (decide (((List.length l9) + 1 : Nat) ≤ 4294967296))) then (L_bag_some_r0_1 l3 i4 (IntKind.wrap .i64 (i5 + (1 : Int) : Int)) l6 l7 l8 (l9 ++ [(PV.slice 3 v15)])) else none))))) else (L_bag_some_r0_1 l3 i4 (IntKind.wrap .i64 (i5 + (1 : Int) : Int)) l6 l7 l8 l9)))))))))) else none) else (some ((AV.agg [(AV.pv (PV.slice 0 l8)), (AV.view 0 0 none)]), [(Ob.row false 0 0 l9)]))) := (T59r0.loop [1, 1, 0, 1, 0] 5 _ rfl).trans (by kernel_rfl)
theorem o_bag_some_r0_1 (l0 : List PV) (l1 : List PV) : W n_bag_some true [(AV.pv (PV.agg [(PV.slice 0 l0), (PV.slice 0 l1)])), (AV.pv (PV.fn n_bag_Sort_1 [] []))] [] =
  (((wc W n_slices_Clone_int_int [(PV.slice 0 l0)])).bind (fun v1 => (c_s0 v1 (fun v2 => (L_bag_some_r0_1 l1 (((List.length l1) : Nat) : Int) (0 : Int) [] [] v2 []))))) := goO (by kernel_rfl) (by kernel_rfl) T59r0 rfl (by kernel_rfl)
noncomputable def jF60 : Jn PV := (Classical.choose (exT fi60 (fin cfg fi60))).1
noncomputable def lF60 : Ln PV := (Classical.choose (exT fi60 (fin cfg fi60))).2
theorem T60 : Tied cfg W fi60 (fin cfg fi60) jF60 lF60 := Classical.choose_spec (exT fi60 (fin cfg fi60))
theorem e_bag_Sort_1 (a0 : List PV) : wc W n_bag_Sort_1 [(PV.slice 3 a0)] =
  (some (PV.bool true)) := go (by kernel_rfl) (by kernel_rfl) T60 (by kernel_rfl)
noncomputable def jF61 : Jn PV := (Classical.choose (exT fi61 (fin cfg fi61))).1
noncomputable def lF61 : Ln PV := (Classical.choose (exT fi61 (fin cfg fi61))).2
theorem T61 : Tied cfg W fi61 (fin cfg fi61) jF61 lF61 := Classical.choose_spec (exT fi61 (fin cfg fi61))
theorem e_slices_SortStableFunc_api_Val_api_Val (a0 : List PV) (a1 : PV) : wc W n_slices_SortStableFunc_api_Val_api_Val [(PV.slice 0 a0), a1] =
  (((wc W n_slices_stableCmpFunc_api_Val [(PV.slice 0 a0), (PV.int .i64 (((List.length a0) : Nat) : Int)), a1])).bind (fun v1 => (some (PV.tup [])))) := go (by kernel_rfl) (by kernel_rfl) T61 (by kernel_rfl)
noncomputable def jF61o2 : Jn (AV × List Ob) := (Classical.choose (exT fi61 (finO cfg fi61 false 2))).1
noncomputable def lF61o2 : Ln (AV × List Ob) := (Classical.choose (exT fi61 (finO cfg fi61 false 2))).2
theorem T61o2 : Tied cfg W fi61 (finO cfg fi61 false 2) jF61o2 lF61o2 := Classical.choose_spec (exT fi61 (finO cfg fi61 false 2))
theorem o_slices_SortStableFunc_api_Val_api_Val_o2_1 (l0 : List PV) (i1 : Int) : W n_slices_SortStableFunc_api_Val_api_Val false [(AV.fx 0 0), (AV.fnv n_bag_Sort_2 [] [(AV.own 1 0)])] [(Ob.fix 0 0 l0), (Ob.var false 0 (AV.pv (PV.int .i64 i1)))] =
  (((W n_slices_stableCmpFunc_api_Val false [(AV.fx 0 0), (AV.pv (PV.int .i64 (((List.length l0) : Nat) : Int))), (AV.fnv n_bag_Sort_2 [] [(AV.own 1 0)])] [(Ob.fix 0 0 l0), (Ob.var false 0 (AV.pv (PV.int .i64 i1)))])).bind (fun v4 => (k_c4d914 v4 (fun v5 v6 v7 => (some ((AV.pv (PV.tup [])), [(Ob.fix 0 0 v6), (Ob.var false 0 (AV.pv (PV.int .i64 v7)))])))))) := goO (by kernel_rfl) (by kernel_rfl) T61o2 rfl (by kernel_rfl)
noncomputable def jF62 : Jn PV := (Classical.choose (exT fi62 (fin cfg fi62))).1
noncomputable def lF62 : Ln PV := (Classical.choose (exT fi62 (fin cfg fi62))).2
theorem T62 : Tied cfg W fi62 (fin cfg fi62) jF62 lF62 := Classical.choose_spec (exT fi62 (fin cfg fi62))
theorem e_bag_Sort_2 (a0 : List PV) (a1 : List PV) (c0 : Int) : wc W n_bag_Sort_2 [(PV.slice 3 a0), (PV.slice 3 a1), (PV.imm 0 (PV.int .i64 c0) 0)] =
  (((wc W n_bag_of [(PV.slice 3 a0), (PV.int .i64 c0)])).bind (fun v1 => (c_g_i64_i64 v1 (fun v2 v3 => (((wc W n_bag_of [(PV.slice 3 a1), (PV.int .i64 c0)])).bind (fun v4 => (c_g_i64_i64 v4 (fun v5 v6 => (((wc W n_bag_compare [(PV.agg [(PV.int .i64 v2), (PV.int .i64 v3)]), (PV.agg [(PV.int .i64 v5), (PV.int .i64 v6)])])).bind (fun v7 => (c_i64 v7 (fun v8 => (some (PV.int .i64 v8)))))))))))))) := go (by kernel_rfl) (by kernel_rfl) T62 (by kernel_rfl)
noncomputable def jF62o1 : Jn (AV × List Ob) := (Classical.choose (exT fi62 (finO cfg fi62 false 1))).1
noncomputable def lF62o1 : Ln (AV × List Ob) := (Classical.choose (exT fi62 (finO cfg fi62 false 1))).2
theorem T62o1 : Tied cfg W fi62 (finO cfg fi62 false 1) jF62o1 lF62o1 := Classical.choose_spec (exT fi62 (finO cfg fi62 false 1))
theorem o_bag_Sort_2_o1_1 (l0 : List PV) (l1 : List PV) (i2 : Int) : W n_bag_Sort_2 false [(AV.pv (PV.slice 3 l0)), (AV.pv (PV.slice 3 l1)), (AV.own 0 0)] [(Ob.var false 0 (AV.pv (PV.int .i64 i2)))] =
  (((wc W n_bag_of [(PV.slice 3 l0), (PV.int .i64 i2)])).bind (fun v1 => (c_g_i64_i64 v1 (fun v2 v3 => (((wc W n_bag_of [(PV.slice 3 l1), (PV.int .i64 i2)])).bind (fun v4 => (c_g_i64_i64 v4 (fun v5 v6 => (((wc W n_bag_compare [(PV.agg [(PV.int .i64 v2), (PV.int .i64 v3)]), (PV.agg [(PV.int .i64 v5), (PV.int .i64 v6)])])).bind (fun v7 => (c_i64 v7 (fun v8 => (some ((AV.pv (PV.int .i64 v8)), [(Ob.var false 0 (AV.pv (PV.int .i64 i2)))])))))))))))))) := goO (by kernel_rfl) (by kernel_rfl) T62o1 rfl (by kernel_rfl)
noncomputable def jF63 : Jn PV := (Classical.choose (exT fi63 (fin cfg fi63))).1
noncomputable def lF63 : Ln PV := (Classical.choose (exT fi63 (fin cfg fi63))).2
theorem T63 : Tied cfg W fi63 (fin cfg fi63) jF63 lF63 := Classical.choose_spec (exT fi63 (fin cfg fi63))
noncomputable def L_slices_IsSortedFunc_api_Val_api_Val_1 (l1 : List PV) (p2 : PV) (i3 : Int) : Option PV := lF63 [0, 1, 0, 1] 0 (St.mk [(0, (AV.pv (PV.slice 0 l1))), (1, (AV.pv p2)), (5, (AV.pv (PV.int .i64 i3)))] [])
theorem L_slices_IsSortedFunc_api_Val_api_Val_1_eq (l1 : List PV) (p2 : PV) (i3 : Int) : L_slices_IsSortedFunc_api_Val_api_Val_1 l1 p2 i3 =
  (bif (decide (GT.gt i3 (0 : Int))) then (bif (decide ((0 : Int) ≤ i3)) then (((l1)[(Int.toNat i3)]?).bind (fun v4 => (c_s3 v4 (fun v5 => (bif (decide ((0 : Int) ≤ (IntKind.wrap .i64 (i3 - (1 : Int) : Int)))) then (((l1)[(Int.toNat (IntKind.wrap .i64 (i3 - (1 : Int) : Int)))]?).bind (fun v6 => (c_s3 v6 (fun v7 => (((PV.asFn p2)).bind (fun v8 => (((wc W (Prod.fst v8) (((Prod.fst (Prod.snd v8)) ++ [(PV.slice 3 v5), (PV.slice 3 v7)]) ++ (Prod.snd (Prod.snd v8))))).bind (fun v9 => (c_i64 v9 (fun v10 => (bif (decide (v10 < (0 : Int))) then (some (PV.bool false)) else (L_slices_IsSortedFunc_api_Val_api_Val_1 l1 p2 (IntKind.wrap .i64 (i3 - (1 : Int) : Int)))))))))))))) else none))))) else none) else (some (PV.bool true))) := (T63.loop [1, 0, 1, 0] 0 _ rfl).trans (by kernel_rfl)
theorem e_slices_IsSortedFunc_api_Val_api_Val (a0 : List PV) (a1 : PV) : wc W n_slices_IsSortedFunc_api_Val_api_Val [(PV.slice 0 a0), a1] =
  (L_slices_IsSortedFunc_api_Val_api_Val_1 a0 a1 (IntKind.wrap .i64 ((((List.length a0) : Nat) : Int) - (1 : Int) : Int))) := go (by kernel_rfl) (by kernel_rfl) T63 (by kernel_rfl)
noncomputable def jF63o1 : Jn (AV × List Ob) := (Classical.choose (exT fi63 (finO cfg fi63 false 1))).1
noncomputable def lF63o1 : Ln (AV × List Ob) := (Classical.choose (exT fi63 (finO cfg fi63 false 1))).2
theorem T63o1 : Tied cfg W fi63 (finO cfg fi63 false 1) jF63o1 lF63o1 := Classical.choose_spec (exT fi63 (finO cfg fi63 false 1))
noncomputable def L_slices_IsSortedFunc_api_Val_api_Val_o1_1 (l1 : List PV) (i2 : Int) (i3 : Int) : Option (AV × List Ob) := lF63o1 [0, 1, 0, 1] 1 (St.mk [(0, (AV.pv (PV.slice 0 l1))), (1, (AV.fnv n_bag_Sorted_1 [] [(AV.own 0 0)])), (5, (AV.pv (PV.int .i64 i2)))] [(Ob.var false 0 (AV.pv (PV.int .i64 i3)))])
theorem L_slices_IsSortedFunc_api_Val_api_Val_o1_1_eq (l1 : List PV) (i2 : Int) (i3 : Int) : L_slices_IsSortedFunc_api_Val_api_Val_o1_1 l1 i2 i3 =
  (bif (decide (GT.gt i2 (0 : Int))) then (bif (decide ((0 : Int) ≤ i2)) then (((l1)[(Int.toNat i2)]?).bind (fun v4 => (c_s3 v4 (fun v5 => (bif (decide ((0 : Int) ≤ (IntKind.wrap .i64 (i2 - (1 : Int) : Int)))) then (((l1)[(Int.toNat (IntKind.wrap .i64 (i2 - (1 : Int) : Int)))]?).bind (fun v6 => (c_s3 v6 (fun v7 => (((W n_bag_Sorted_1 false [(AV.pv (PV.slice 3 v5)), (AV.pv (PV.slice 3 v7)), (AV.own 0 0)] [(Ob.var false 0 (AV.pv (PV.int .i64 i3)))])).bind (fun v11 => (k_5b106d v11 (fun v12 v13 => (c_i64 v12 (fun v14 => (bif (decide (v14 < (0 : Int))) then (some ((AV.pv (PV.bool false)), [(Ob.var false 0 (AV.pv (PV.int .i64 v13)))])) else (L_slices_IsSortedFunc_api_Val_api_Val_o1_1 l1 (IntKind.wrap .i64 (i2 - (1 : Int) : Int)) v13)))))))))))) else none))))) else none) else (some ((AV.pv (PV.bool true)), [(Ob.var false 0 (AV.pv (PV.int .i64 i3)))]))) := (T63o1.loop [1, 0, 1, 0] 1 _ rfl).trans (by kernel_rfl)
theorem o_slices_IsSortedFunc_api_Val_api_Val_o1_1 (l0 : List PV) (i1 : Int) : W n_slices_IsSortedFunc_api_Val_api_Val false [(AV.pv (PV.slice 0 l0)), (AV.fnv n_bag_Sorted_1 [] [(AV.own 0 0)])] [(Ob.var false 0 (AV.pv (PV.int .i64 i1)))] =
  (L_slices_IsSortedFunc_api_Val_api_Val_o1_1 l0 (IntKind.wrap .i64 ((((List.length l0) : Nat) : Int) - (1 : Int) : Int)) i1) := goO (by kernel_rfl) (by kernel_rfl) T63o1 rfl (by kernel_rfl)
noncomputable def jF64 : Jn PV := (Classical.choose (exT fi64 (fin cfg fi64))).1
noncomputable def lF64 : Ln PV := (Classical.choose (exT fi64 (fin cfg fi64))).2
theorem T64 : Tied cfg W fi64 (fin cfg fi64) jF64 lF64 := Classical.choose_spec (exT fi64 (fin cfg fi64))
theorem e_bag_Sorted_1 (a0 : List PV) (a1 : List PV) (c0 : Int) : wc W n_bag_Sorted_1 [(PV.slice 3 a0), (PV.slice 3 a1), (PV.imm 0 (PV.int .i64 c0) 0)] =
  (((wc W n_bag_of [(PV.slice 3 a0), (PV.int .i64 c0)])).bind (fun v1 => (c_g_i64_i64 v1 (fun v2 v3 => (((wc W n_bag_of [(PV.slice 3 a1), (PV.int .i64 c0)])).bind (fun v4 => (c_g_i64_i64 v4 (fun v5 v6 => (((wc W n_bag_compare [(PV.agg [(PV.int .i64 v2), (PV.int .i64 v3)]), (PV.agg [(PV.int .i64 v5), (PV.int .i64 v6)])])).bind (fun v7 => (c_i64 v7 (fun v8 => (some (PV.int .i64 v8)))))))))))))) := go (by kernel_rfl) (by kernel_rfl) T64 (by kernel_rfl)
noncomputable def jF64o1 : Jn (AV × List Ob) := (Classical.choose (exT fi64 (finO cfg fi64 false 1))).1
noncomputable def lF64o1 : Ln (AV × List Ob) := (Classical.choose (exT fi64 (finO cfg fi64 false 1))).2
theorem T64o1 : Tied cfg W fi64 (finO cfg fi64 false 1) jF64o1 lF64o1 := Classical.choose_spec (exT fi64 (finO cfg fi64 false 1))
theorem o_bag_Sorted_1_o1_1 (l0 : List PV) (l1 : List PV) (i2 : Int) : W n_bag_Sorted_1 false [(AV.pv (PV.slice 3 l0)), (AV.pv (PV.slice 3 l1)), (AV.own 0 0)] [(Ob.var false 0 (AV.pv (PV.int .i64 i2)))] =
  (((wc W n_bag_of [(PV.slice 3 l0), (PV.int .i64 i2)])).bind (fun v1 => (c_g_i64_i64 v1 (fun v2 v3 => (((wc W n_bag_of [(PV.slice 3 l1), (PV.int .i64 i2)])).bind (fun v4 => (c_g_i64_i64 v4 (fun v5 v6 => (((wc W n_bag_compare [(PV.agg [(PV.int .i64 v2), (PV.int .i64 v3)]), (PV.agg [(PV.int .i64 v5), (PV.int .i64 v6)])])).bind (fun v7 => (c_i64 v7 (fun v8 => (some ((AV.pv (PV.int .i64 v8)), [(Ob.var false 0 (AV.pv (PV.int .i64 i2)))])))))))))))))) := goO (by kernel_rfl) (by kernel_rfl) T64o1 rfl (by kernel_rfl)
noncomputable def jF74 : Jn PV := (Classical.choose (exT fi74 (fin cfg fi74))).1
noncomputable def lF74 : Ln PV := (Classical.choose (exT fi74 (fin cfg fi74))).2
theorem T74 : Tied cfg W fi74 (fin cfg fi74) jF74 lF74 := Classical.choose_spec (exT fi74 (fin cfg fi74))
noncomputable def L_slices_IndexFunc_api_Val_api_Val_b1f6_1 (l1 : List PV) (p2 : PV) (i3 : Int) (i4 : Int) : Option PV := lF74 [0, 1, 0, 1] 0 (St.mk [(0, (AV.pv (PV.slice 3 l1))), (1, (AV.pv p2)), (7, (AV.pv (PV.int .i64 i3))), (8, (AV.pv (PV.int .i64 i4)))] [])
theorem L_slices_IndexFunc_api_Val_api_Val_b1f6_1_eq (l1 : List PV) (p2 : PV) (i3 : Int) (i4 : Int) : L_slices_IndexFunc_api_Val_api_Val_b1f6_1 l1 p2 i3 i4 =
  (bif (decide (i4 < i3)) then (bif (decide ((0 : Int) ≤ i4)) then (((l1)[(Int.toNat i4)]?).bind (fun v5 => (c_g_i64_i64 v5 (fun v6 v7 => (((PV.asFn p2)).bind (fun v8 => (((wc W (Prod.fst v8) (((Prod.fst (Prod.snd v8)) ++ [(PV.agg [(PV.int .i64 v6), (PV.int .i64 v7)])]) ++ (Prod.snd (Prod.snd v8))))).bind (fun v9 => (c_b v9 (fun v10 => (bif v10 then (some (PV.int .i64 i4)) else (L_slices_IndexFunc_api_Val_api_Val_b1f6_1 l1 p2 i3 (IntKind.wrap .i64 (i4 + (1 : Int) : Int)))))))))))))) else none) else (some (PV.int .i64 (-1 : Int)))) := (T74.loop [1, 0, 1, 0] 0 _ rfl).trans (by kernel_rfl)
theorem e_slices_IndexFunc_api_Val_api_Val_b1f6 (a0 : List PV) (a1 : PV) : wc W n_slices_IndexFunc_api_Val_api_Val_b1f6 [(PV.slice 3 a0), a1] =
  (L_slices_IndexFunc_api_Val_api_Val_b1f6_1 a0 a1 (((List.length a0) : Nat) : Int) (0 : Int)) := go (by kernel_rfl) (by kernel_rfl) T74 (by kernel_rfl)
noncomputable def jF75 : Jn PV := (Classical.choose (exT fi75 (fin cfg fi75))).1
noncomputable def lF75 : Ln PV := (Classical.choose (exT fi75 (fin cfg fi75))).2
theorem T75 : Tied cfg W fi75 (fin cfg fi75) jF75 lF75 := Classical.choose_spec (exT fi75 (fin cfg fi75))
noncomputable def L_slices_IndexFunc_int_int_1 (l1 : List PV) (p2 : PV) (i3 : Int) (i4 : Int) : Option PV := lF75 [0, 1, 0, 1] 0 (St.mk [(0, (AV.pv (PV.slice 0 l1))), (1, (AV.pv p2)), (7, (AV.pv (PV.int .i64 i3))), (8, (AV.pv (PV.int .i64 i4)))] [])
theorem L_slices_IndexFunc_int_int_1_eq (l1 : List PV) (p2 : PV) (i3 : Int) (i4 : Int) : L_slices_IndexFunc_int_int_1 l1 p2 i3 i4 =
  (bif (decide (i4 < i3)) then (bif (decide ((0 : Int) ≤ i4)) then (((l1)[(Int.toNat i4)]?).bind (fun v5 => (c_i64 v5 (fun v6 => (((PV.asFn p2)).bind (fun v7 => (((wc W (Prod.fst v7) (((Prod.fst (Prod.snd v7)) ++ [(PV.int .i64 v6)]) ++ (Prod.snd (Prod.snd v7))))).bind (fun v8 => (c_b v8 (fun v9 => (bif v9 then (some (PV.int .i64 i4)) else (L_slices_IndexFunc_int_int_1 l1 p2 i3 (IntKind.wrap .i64 (i4 + (1 : Int) : Int)))))))))))))) else none) else (some (PV.int .i64 (-1 : Int)))) := (T75.loop [1, 0, 1, 0] 0 _ rfl).trans (by kernel_rfl)
theorem e_slices_IndexFunc_int_int (a0 : List PV) (a1 : PV) : wc W n_slices_IndexFunc_int_int [(PV.slice 0 a0), a1] =
  (L_slices_IndexFunc_int_int_1 a0 a1 (((List.length a0) : Nat) : Int) (0 : Int)) := go (by kernel_rfl) (by kernel_rfl) T75 (by kernel_rfl)
noncomputable def jF78 : Jn PV := (Classical.choose (exT fi78 (fin cfg fi78))).1
noncomputable def lF78 : Ln PV := (Classical.choose (exT fi78 (fin cfg fi78))).2
theorem T78 : Tied cfg W fi78 (fin cfg fi78) jF78 lF78 := Classical.choose_spec (exT fi78 (fin cfg fi78))
noncomputable def L_slices_Compare_int_int_1 (l1 : List PV) (l2 : List PV) (l3 : List PV) (i4 : Int) (i5 : Int) : Option PV := lF78 [0, 1, 0, 1] 0 (St.mk [(0, (AV.pv (PV.slice 0 l1))), (1, (AV.pv (PV.slice 0 l2))), (9, (AV.pv (PV.slice 0 l3))), (10, (AV.pv (PV.int .i64 i4))), (11, (AV.pv (PV.int .i64 i5)))] [])
theorem L_slices_Compare_int_int_1_eq (l1 : List PV) (l2 : List PV) (l3 : List PV) (i4 : Int) (i5 : Int) : L_slices_Compare_int_int_1 l1 l2 l3 i4 i5 =
  (bif (decide (i5 < i4)) then (bif (decide ((0 : Int) ≤ i5)) then (((l3)[(Int.toNat i5)]?).bind (fun v6 => (c_i64 v6 (fun v7 => (bif (decide (GE.ge i5 (((List.length l2) : Nat) : Int))) then (some (PV.int .i64 (1 : Int))) else (bif (decide ((0 : Int) ≤ i5)) then (((l2)[(Int.toNat i5)]?).bind (fun v8 => (c_i64 v8 (fun v9 => (((wc W n_cmp_Compare_int [(PV.int .i64 v7), (PV.int .i64 v9)])).bind (fun v10 => (c_i64 v10 (fun v11 => (bif (v11 != (0 : Int)) then (some (PV.int .i64 v11)) else (L_slices_Compare_int_int_1 l1 l2 l3 i4 (IntKind.wrap .i64 (i5 + (1 : Int) : Int)))))))))))) else none)))))) else none) else (bif (decide ((((List.length l1) : Nat) : Int) < (((List.length l2) : Nat) : Int))) then (some (PV.int .i64 (-1 : Int))) else (some (PV.int .i64 (0 : Int))))) := (T78.loop [1, 0, 1, 0] 0 _ rfl).trans (by kernel_rfl)
theorem e_slices_Compare_int_int (a0 : List PV) (a1 : List PV) : wc W n_slices_Compare_int_int [(PV.slice 0 a0), (PV.slice 0 a1)] =
  (L_slices_Compare_int_int_1 a0 a1 a0 (((List.length a0) : Nat) : Int) (0 : Int)) := go (by kernel_rfl) (by kernel_rfl) T78 (by kernel_rfl)
noncomputable def jF79 : Jn PV := (Classical.choose (exT fi79 (fin cfg fi79))).1
noncomputable def lF79 : Ln PV := (Classical.choose (exT fi79 (fin cfg fi79))).2
theorem T79 : Tied cfg W fi79 (fin cfg fi79) jF79 lF79 := Classical.choose_spec (exT fi79 (fin cfg fi79))
theorem e_val_some_api_Val (a0 : List PV) (a1 : PV) : wc W n_val_some_api_Val [(PV.slice 3 a0), a1] =
  (((wc W n_slices_ContainsFunc_api_Val_api_Val_c5fc [(PV.slice 3 a0), a1])).bind (fun v1 => (c_b v1 (fun v2 => (some (PV.bool v2)))))) := go (by kernel_rfl) (by kernel_rfl) T79 (by kernel_rfl)
noncomputable def jF80 : Jn PV := (Classical.choose (exT fi80 (fin cfg fi80))).1
noncomputable def lF80 : Ln PV := (Classical.choose (exT fi80 (fin cfg fi80))).2
theorem T80 : Tied cfg W fi80 (fin cfg fi80) jF80 lF80 := Classical.choose_spec (exT fi80 (fin cfg fi80))
theorem e_val_kind (a0 : Int) : wc W n_val_kind [(PV.int .i64 a0)] =
  (some (PV.fn n_val_kind_1 [] [(PV.imm 0 (PV.int .i64 a0) 0)])) := go (by kernel_rfl) (by kernel_rfl) T80 (by kernel_rfl)
noncomputable def jF81 : Jn PV := (Classical.choose (exT fi81 (fin cfg fi81))).1
noncomputable def lF81 : Ln PV := (Classical.choose (exT fi81 (fin cfg fi81))).2
theorem T81 : Tied cfg W fi81 (fin cfg fi81) jF81 lF81 := Classical.choose_spec (exT fi81 (fin cfg fi81))
theorem e_val_bad  : wc W n_val_bad [] =
  (some (PV.agg [(PV.int .i64 (2 : Int)), (PV.int .i64 (0 : Int))])) := go (by kernel_rfl) (by kernel_rfl) T81 (by kernel_rfl)
noncomputable def jF83 : Jn PV := (Classical.choose (exT fi83 (fin cfg fi83))).1
noncomputable def lF83 : Ln PV := (Classical.choose (exT fi83 (fin cfg fi83))).2
theorem T83 : Tied cfg W fi83 (fin cfg fi83) jF83 lF83 := Classical.choose_spec (exT fi83 (fin cfg fi83))
theorem e_val_null  : wc W n_val_null [] =
  (some (PV.agg [(PV.int .i64 (1 : Int)), (PV.int .i64 (0 : Int))])) := go (by kernel_rfl) (by kernel_rfl) T83 (by kernel_rfl)
noncomputable def jF86 : Jn PV := (Classical.choose (exT fi86 (fin cfg fi86))).1
noncomputable def lF86 : Ln PV := (Classical.choose (exT fi86 (fin cfg fi86))).2
theorem T86 : Tied cfg W fi86 (fin cfg fi86) jF86 lF86 := Classical.choose_spec (exT fi86 (fin cfg fi86))
noncomputable def L_slices_stableCmpFunc_api_Val_1 (l1 : List PV) (i2 : Int) (p3 : PV) (i4 : Int) (i5 : Int) (i6 : Int) : Option PV := lF86 [0, 0, 1, 1] 0 (St.mk [(0, (AV.pv (PV.slice 0 l1))), (1, (AV.pv (PV.int .i64 i2))), (2, (AV.pv p3)), (6, (AV.pv (PV.int .i64 i4))), (7, (AV.pv (PV.int .i64 i5))), (8, (AV.pv (PV.int .i64 i6)))] [])
noncomputable def L_slices_stableCmpFunc_api_Val_2 (l9 : List PV) (i10 : Int) (p11 : PV) (i12 : Int) : Option PV := lF86 [0, 1, 1, 1, 1] 0 (St.mk [(0, (AV.pv (PV.slice 0 l9))), (1, (AV.pv (PV.int .i64 i10))), (2, (AV.pv p11)), (6, (AV.pv (PV.int .i64 i12)))] [])
noncomputable def L_slices_stableCmpFunc_api_Val_3 (l13 : List PV) (i14 : Int) (p15 : PV) (i16 : Int) (i17 : Int) (i18 : Int) : Option PV := lF86 [0, 0, 1, 0, 1, 0, 0, 1, 1, 1, 1] 0 (St.mk [(0, (AV.pv (PV.slice 0 l13))), (1, (AV.pv (PV.int .i64 i14))), (2, (AV.pv p15)), (6, (AV.pv (PV.int .i64 i16))), (7, (AV.pv (PV.int .i64 i17))), (8, (AV.pv (PV.int .i64 i18)))] [])
theorem L_slices_stableCmpFunc_api_Val_1_eq (l1 : List PV) (i2 : Int) (p3 : PV) (i4 : Int) (i5 : Int) (i6 : Int) : L_slices_stableCmpFunc_api_Val_1 l1 i2 p3 i4 i5 i6 =
  (bif (decide (i6 ≤ i2)) then (((wc W n_slices_insertionSortCmpFunc_api_Val [(PV.slice 0 l1), (PV.int .i64 i5), (PV.int .i64 i6), p3])).bind (fun v7 => (L_slices_stableCmpFunc_api_Val_1 l1 i2 p3 i4 i6 (IntKind.wrap .i64 (i6 + i4 : Int))))) else (((wc W n_slices_insertionSortCmpFunc_api_Val [(PV.slice 0 l1), (PV.int .i64 i5), (PV.int .i64 i2), p3])).bind (fun v8 => (L_slices_stableCmpFunc_api_Val_2 l1 i2 p3 i4)))) := (T86.loop [1, 1, 0, 0] 0 _ rfl).trans (by kernel_rfl)
theorem L_slices_stableCmpFunc_api_Val_2_eq (l9 : List PV) (i10 : Int) (p11 : PV) (i12 : Int) : L_slices_stableCmpFunc_api_Val_2 l9 i10 p11 i12 =
  (bif (decide (i12 < i10)) then (L_slices_stableCmpFunc_api_Val_3 l9 i10 p11 i12 (0 : Int) (IntKind.wrap .i64 ((2 : Int) * i12 : Int))) else (some (PV.tup []))) := (T86.loop [1, 1, 1, 1, 0] 0 _ rfl).trans (by kernel_rfl)
theorem L_slices_stableCmpFunc_api_Val_3_eq (l13 : List PV) (i14 : Int) (p15 : PV) (i16 : Int) (i17 : Int) (i18 : Int) : L_slices_stableCmpFunc_api_Val_3 l13 i14 p15 i16 i17 i18 =
  (bif (decide (i18 ≤ i14)) then (((wc W n_slices_symMergeCmpFunc_api_Val [(PV.slice 0 l13), (PV.int .i64 i17), (PV.int .i64 (IntKind.wrap .i64 (i17 + i16 : Int))), (PV.int .i64 i18), p15])).bind (fun v19 => (L_slices_stableCmpFunc_api_Val_3 l13 i14 p15 i16 i18 (IntKind.wrap .i64 (i18 + (IntKind.wrap .i64 ((2 : Int) * i16 : Int)) : Int))))) else (bif (decide ((IntKind.wrap .i64 (i17 + i16 : Int)) < i14)) then (((wc W n_slices_symMergeCmpFunc_api_Val [(PV.slice 0 l13), (PV.int .i64 i17), (PV.int .i64 (IntKind.wrap .i64 (i17 + i16 : Int))), (PV.int .i64 i14), p15])).bind (fun v20 => (L_slices_stableCmpFunc_api_Val_2 l13 i14 p15 (IntKind.wrap .i64 (i16 * (2 : Int) : Int))))) else (L_slices_stableCmpFunc_api_Val_2 l13 i14 p15 (IntKind.wrap .i64 (i16 * (2 : Int) : Int))))) := (T86.loop [1, 1, 1, 1, 0, 0, 1, 0, 1, 0, 0] 0 _ rfl).trans (by kernel_rfl)
theorem e_slices_stableCmpFunc_api_Val (a0 : List PV) (a1 : Int) (a2 : PV) : wc W n_slices_stableCmpFunc_api_Val [(PV.slice 0 a0), (PV.int .i64 a1), a2] =
  (L_slices_stableCmpFunc_api_Val_1 a0 a1 a2 (20 : Int) (0 : Int) (20 : Int)) := go (by kernel_rfl) (by kernel_rfl) T86 (by kernel_rfl)
noncomputable def jF86o2 : Jn (AV × List Ob) := (Classical.choose (exT fi86 (finO cfg fi86 false 2))).1
noncomputable def lF86o2 : Ln (AV × List Ob) := (Classical.choose (exT fi86 (finO cfg fi86 false 2))).2
theorem T86o2 : Tied cfg W fi86 (finO cfg fi86 false 2) jF86o2 lF86o2 := Classical.choose_spec (exT fi86 (finO cfg fi86 false 2))
noncomputable def L_slices_stableCmpFunc_api_Val_o2_1 (i1 : Int) (i2 : Int) (i3 : Int) (i4 : Int) (l5 : List PV) (i6 : Int) : Option (AV × List Ob) := lF86o2 [0, 0, 1, 1] 2 (St.mk [(0, (AV.fx 0 0)), (1, (AV.pv (PV.int .i64 i1))), (2, (AV.fnv n_bag_Sort_2 [] [(AV.own 1 0)])), (6, (AV.pv (PV.int .i64 i2))), (7, (AV.pv (PV.int .i64 i3))), (8, (AV.pv (PV.int .i64 i4)))] [(Ob.fix 0 0 l5), (Ob.var false 0 (AV.pv (PV.int .i64 i6)))])
noncomputable def L_slices_stableCmpFunc_api_Val_o2_2 (i23 : Int) (i24 : Int) (l25 : List PV) (i26 : Int) : Option (AV × List Ob) := lF86o2 [0, 1, 1, 1, 1] 2 (St.mk [(0, (AV.fx 0 0)), (1, (AV.pv (PV.int .i64 i23))), (2, (AV.fnv n_bag_Sort_2 [] [(AV.own 1 0)])), (6, (AV.pv (PV.int .i64 i24)))] [(Ob.fix 0 0 l25), (Ob.var false 0 (AV.pv (PV.int .i64 i26)))])
noncomputable def L_slices_stableCmpFunc_api_Val_o2_3 (i27 : Int) (i28 : Int) (i29 : Int) (i30 : Int) (l31 : List PV) (i32 : Int) : Option (AV × List Ob) := lF86o2 [0, 0, 1, 0, 1, 2, 0, 1, 1, 1, 1] 2 (St.mk [(0, (AV.fx 0 0)), (1, (AV.pv (PV.int .i64 i27))), (2, (AV.fnv n_bag_Sort_2 [] [(AV.own 1 0)])), (6, (AV.pv (PV.int .i64 i28))), (7, (AV.pv (PV.int .i64 i29))), (8, (AV.pv (PV.int .i64 i30)))] [(Ob.fix 0 0 l31), (Ob.var false 0 (AV.pv (PV.int .i64 i32)))])
theorem L_slices_stableCmpFunc_api_Val_o2_1_eq (i1 : Int) (i2 : Int) (i3 : Int) (i4 : Int) (l5 : List PV) (i6 : Int) : L_slices_stableCmpFunc_api_Val_o2_1 i1 i2 i3 i4 l5 i6 =
  (bif (decide (i4 ≤ i1)) then (((W n_slices_insertionSortCmpFunc_api_Val false [(AV.fx 0 0), (AV.pv (PV.int .i64 i3)), (AV.pv (PV.int .i64 i4)), (AV.fnv n_bag_Sort_2 [] [(AV.own 1 0)])] [(Ob.fix 0 0 l5), (Ob.var false 0 (AV.pv (PV.int .i64 i6)))])).bind (fun v11 => (k_c4d914 v11 (fun v12 v13 v14 => (L_slices_stableCmpFunc_api_Val_o2_1 i1 i2 i4 (IntKind.wrap .i64 (i4 + i2 : Int)) v13 v14))))) else (((W n_slices_insertionSortCmpFunc_api_Val false [(AV.fx 0 0), (AV.pv (PV.int .i64 i3)), (AV.pv (PV.int .i64 i1)), (AV.fnv n_bag_Sort_2 [] [(AV.own 1 0)])] [(Ob.fix 0 0 l5), (Ob.var false 0 (AV.pv (PV.int .i64 i6)))])).bind (fun v19 => (k_c4d914 v19 (fun v20 v21 v22 => (L_slices_stableCmpFunc_api_Val_o2_2 i1 i2 v21 v22)))))) := (T86o2.loop [1, 1, 0, 0] 2 _ rfl).trans (by kernel_rfl)
theorem L_slices_stableCmpFunc_api_Val_o2_2_eq (i23 : Int) (i24 : Int) (l25 : List PV) (i26 : Int) : L_slices_stableCmpFunc_api_Val_o2_2 i23 i24 l25 i26 =
  (bif (decide (i24 < i23)) then (L_slices_stableCmpFunc_api_Val_o2_3 i23 i24 (0 : Int) (IntKind.wrap .i64 ((2 : Int) * i24 : Int)) l25 i26) else (some ((AV.pv (PV.tup [])), [(Ob.fix 0 0 l25), (Ob.var false 0 (AV.pv (PV.int .i64 i26)))]))) := (T86o2.loop [1, 1, 1, 1, 0] 2 _ rfl).trans (by kernel_rfl)
theorem L_slices_stableCmpFunc_api_Val_o2_3_eq (i27 : Int) (i28 : Int) (i29 : Int) (i30 : Int) (l31 : List PV) (i32 : Int) : L_slices_stableCmpFunc_api_Val_o2_3 i27 i28 i29 i30 l31 i32 =
  (bif (decide (i30 ≤ i27)) then (((W n_slices_symMergeCmpFunc_api_Val false [(AV.fx 0 0), (AV.pv (PV.int .i64 i29)), (AV.pv (PV.int .i64 (IntKind.wrap .i64 (i29 + i28 : Int)))), (AV.pv (PV.int .i64 i30)), (AV.fnv n_bag_Sort_2 [] [(AV.own 1 0)])] [(Ob.fix 0 0 l31), (Ob.var false 0 (AV.pv (PV.int .i64 i32)))])).bind (fun v38 => (k_c4d914 v38 (fun v39 v40 v41 => (L_slices_stableCmpFunc_api_Val_o2_3 i27 i28 i30 (IntKind.wrap .i64 (i30 + (IntKind.wrap .i64 ((2 : Int) * i28 : Int)) : Int)) v40 v41))))) else (bif (decide ((IntKind.wrap .i64 (i29 + i28 : Int)) < i27)) then (((W n_slices_symMergeCmpFunc_api_Val false [(AV.fx 0 0), (AV.pv (PV.int .i64 i29)), (AV.pv (PV.int .i64 (IntKind.wrap .i64 (i29 + i28 : Int)))), (AV.pv (PV.int .i64 i27)), (AV.fnv n_bag_Sort_2 [] [(AV.own 1 0)])] [(Ob.fix 0 0 l31), (Ob.var false 0 (AV.pv (PV.int .i64 i32)))])).bind (fun v47 => (k_c4d914 v47 (fun v48 v49 v50 => (L_slices_stableCmpFunc_api_Val_o2_2 i27 (IntKind.wrap .i64 (i28 * (2 : Int) : Int)) v49 v50))))) else (L_slices_stableCmpFunc_api_Val_o2_2 i27 (IntKind.wrap .i64 (i28 * (2 : Int) : Int)) l31 i32))) := (T86o2.loop [1, 1, 1, 1, 0, 2, 1, 0, 1, 0, 0] 2 _ rfl).trans (by kernel_rfl)
theorem o_slices_stableCmpFunc_api_Val_o2_1 (i0 : Int) (l1 : List PV) (i2 : Int) : W n_slices_stableCmpFunc_api_Val false [(AV.fx 0 0), (AV.pv (PV.int .i64 i0)), (AV.fnv n_bag_Sort_2 [] [(AV.own 1 0)])] [(Ob.fix 0 0 l1), (Ob.var false 0 (AV.pv (PV.int .i64 i2)))] =
  (L_slices_stableCmpFunc_api_Val_o2_1 i0 (20 : Int) (0 : Int) (20 : Int) l1 i2) := goO (by kernel_rfl) (by kernel_rfl) T86o2 rfl (by kernel_rfl)
noncomputable def jF100 : Jn PV := (Classical.choose (exT fi100 (fin cfg fi100))).1
noncomputable def lF100 : Ln PV := (Classical.choose (exT fi100 (fin cfg fi100))).2
theorem T100 : Tied cfg W fi100 (fin cfg fi100) jF100 lF100 := Classical.choose_spec (exT fi100 (fin cfg fi100))
theorem e_cmp_Compare_int (a0 : Int) (a1 : Int) : wc W n_cmp_Compare_int [(PV.int .i64 a0), (PV.int .i64 a1)] =
  (((wc W n_cmp_isNaN_int [(PV.int .i64 a0)])).bind (fun v1 => (c_b v1 (fun v2 => (((wc W n_cmp_isNaN_int [(PV.int .i64 a1)])).bind (fun v3 => (c_b v3 (fun v4 => (bif v2 then (bif v4 then (some (PV.int .i64 (0 : Int))) else (some (PV.int .i64 (-1 : Int)))) else (bif v4 then (some (PV.int .i64 (1 : Int))) else (bif (decide (a0 < a1)) then (some (PV.int .i64 (-1 : Int))) else (bif (decide (GT.gt a0 a1)) then (some (PV.int .i64 (1 : Int))) else (some (PV.int .i64 (0 : Int))))))))))))))) := go (by kernel_rfl) (by kernel_rfl) T100 (by kernel_rfl)
noncomputable def jF101 : Jn PV := (Classical.choose (exT fi101 (fin cfg fi101))).1
noncomputable def lF101 : Ln PV := (Classical.choose (exT fi101 (fin cfg fi101))).2
theorem T101 : Tied cfg W fi101 (fin cfg fi101) jF101 lF101 := Classical.choose_spec (exT fi101 (fin cfg fi101))
theorem e_val_kind_1 (a0_0 : Int) (a0_1 : Int) (c0 : Int) : wc W n_val_kind_1 [(PV.agg [(PV.int .i64 a0_0), (PV.int .i64 a0_1)]), (PV.imm 0 (PV.int .i64 c0) 0)] =
  (((wc W n_val_fine [(PV.agg [(PV.int .i64 a0_0), (PV.int .i64 a0_1)])])).bind (fun v1 => (c_g_i64_i64 v1 (fun v2 v3 => (some (PV.bool (v2 == c0))))))) := go (by kernel_rfl) (by kernel_rfl) T101 (by kernel_rfl)
noncomputable def jF102 : Jn PV := (Classical.choose (exT fi102 (fin cfg fi102))).1
noncomputable def lF102 : Ln PV := (Classical.choose (exT fi102 (fin cfg fi102))).2
theorem T102 : Tied cfg W fi102 (fin cfg fi102) jF102 lF102 := Classical.choose_spec (exT fi102 (fin cfg fi102))
theorem e_val_fine (a0_0 : Int) (a0_1 : Int) : wc W n_val_fine [(PV.agg [(PV.int .i64 a0_0), (PV.int .i64 a0_1)])] =
  (((wc W n_val_May [(PV.agg [(PV.int .i64 a0_0), (PV.int .i64 a0_1)])])).bind (fun v1 => (c_b v1 (fun v2 => (bif (!v2) then (((wc W n_val_bad [])).bind (fun v3 => (c_g_i64_i64 v3 (fun v4 v5 => (some (PV.agg [(PV.int .i64 v4), (PV.int .i64 v5)])))))) else (some (PV.agg [(PV.int .i64 a0_0), (PV.int .i64 a0_1)]))))))) := go (by kernel_rfl) (by kernel_rfl) T102 (by kernel_rfl)
noncomputable def jF103 : Jn PV := (Classical.choose (exT fi103 (fin cfg fi103))).1
noncomputable def lF103 : Ln PV := (Classical.choose (exT fi103 (fin cfg fi103))).2
theorem T103 : Tied cfg W fi103 (fin cfg fi103) jF103 lF103 := Classical.choose_spec (exT fi103 (fin cfg fi103))
noncomputable def L_slices_insertionSortCmpFunc_api_Val_1 (l1 : List PV) (i2 : Int) (i3 : Int) (p4 : PV) (i5 : Int) : Option PV := lF103 [0, 1] 0 (St.mk [(0, (AV.pv (PV.slice 0 l1))), (1, (AV.pv (PV.int .i64 i2))), (2, (AV.pv (PV.int .i64 i3))), (3, (AV.pv p4)), (8, (AV.pv (PV.int .i64 i5)))] [])
noncomputable def L_slices_insertionSortCmpFunc_api_Val_2 (l6 : List PV) (i7 : Int) (i8 : Int) (p9 : PV) (i10 : Int) (i11 : Int) : Option PV := lF103 [0, 1, 0, 0, 1, 0, 0, 1] 0 (St.mk [(0, (AV.pv (PV.slice 0 l6))), (1, (AV.pv (PV.int .i64 i7))), (2, (AV.pv (PV.int .i64 i8))), (3, (AV.pv p9)), (8, (AV.pv (PV.int .i64 i10))), (9, (AV.pv (PV.int .i64 i11)))] [])
noncomputable def J_slices_insertionSortCmpFunc_api_Val_3 (l19 : List PV) (i20 : Int) (i21 : Int) (p22 : PV) (i23 : Int) (i24 : Int) : Option PV := jF103 [1, 0, 0, 1, 0, 0, 1, 0, 0, 1] (St.mk [(0, (AV.pv (PV.slice 0 l19))), (1, (AV.pv (PV.int .i64 i20))), (2, (AV.pv (PV.int .i64 i21))), (3, (AV.pv p22)), (8, (AV.pv (PV.int .i64 i23))), (9, (AV.pv (PV.int .i64 i24)))] [])
theorem L_slices_insertionSortCmpFunc_api_Val_1_eq (l1 : List PV) (i2 : Int) (i3 : Int) (p4 : PV) (i5 : Int) : L_slices_insertionSortCmpFunc_api_Val_1 l1 i2 i3 p4 i5 =
  (bif (decide (i5 < i3)) then (L_slices_insertionSortCmpFunc_api_Val_2 l1 i2 i3 p4 i5 i5) else (some (PV.tup []))) := (T103.loop [1, 0] 0 _ rfl).trans (by kernel_rfl)
theorem L_slices_insertionSortCmpFunc_api_Val_2_eq (l6 : List PV) (i7 : Int) (i8 : Int) (p9 : PV) (i10 : Int) (i11 : Int) : L_slices_insertionSortCmpFunc_api_Val_2 l6 i7 i8 p9 i10 i11 =
  (bif (decide (GT.gt i11 i7)) then (bif (decide ((0 : Int) ≤ i11)) then (((l6)[(Int.toNat i11)]?).bind (fun v12 => (c_s3 v12 (fun v13 => (bif (decide ((0 : Int) ≤ (IntKind.wrap .i64 (i11 - (1 : Int) : Int)))) then (((l6)[(Int.toNat (IntKind.wrap .i64 (i11 - (1 : Int) : Int)))]?).bind (fun v14 => (c_s3 v14 (fun v15 => (((PV.asFn p9)).bind (fun v16 => (((wc W (Prod.fst v16) (((Prod.fst (Prod.snd v16)) ++ [(PV.slice 3 v13), (PV.slice 3 v15)]) ++ (Prod.snd (Prod.snd v16))))).bind (fun v17 => (c_i64 v17 (fun v18 => (bif (decide (v18 < (0 : Int))) then (J_slices_insertionSortCmpFunc_api_Val_3 l6 i7 i8 p9 i10 i11) else (L_slices_insertionSortCmpFunc_api_Val_1 l6 i7 i8 p9 (IntKind.wrap .i64 (i10 + (1 : Int) : Int)))))))))))))) else none))))) else none) else (L_slices_insertionSortCmpFunc_api_Val_1 l6 i7 i8 p9 (IntKind.wrap .i64 (i10 + (1 : Int) : Int)))) := (T103.loop [1, 0, 0, 1, 0, 0, 1, 0] 0 _ rfl).trans (by kernel_rfl)
theorem J_slices_insertionSortCmpFunc_api_Val_3_eq (l19 : List PV) (i20 : Int) (i21 : Int) (p22 : PV) (i23 : Int) (i24 : Int) : J_slices_insertionSortCmpFunc_api_Val_3 l19 i20 i21 p22 i23 i24 =
  (bif (decide ((0 : Int) ≤ (IntKind.wrap .i64 (i24 - (1 : Int) : Int)))) then (((l19)[(Int.toNat (IntKind.wrap .i64 (i24 - (1 : Int) : Int)))]?).bind (fun v25 => (c_s3 v25 (fun v26 => (bif (decide ((0 : Int) ≤ i24)) then (((l19)[(Int.toNat i24)]?).bind (fun v27 => (c_s3 v27 (fun v28 => (bif (decide ((0 : Int) ≤ i24)) then (((l19)[(Int.toNat i24)]?).bind (fun v29 => none)) else none))))) else none))))) else none) := (T103.join [1, 0, 0, 1, 0, 0, 1, 0, 0, 1] _).trans (by kernel_rfl)
theorem e_slices_insertionSortCmpFunc_api_Val (a0 : List PV) (a1 : Int) (a2 : Int) (a3 : PV) : wc W n_slices_insertionSortCmpFunc_api_Val [(PV.slice 0 a0), (PV.int .i64 a1), (PV.int .i64 a2), a3] =
  (L_slices_insertionSortCmpFunc_api_Val_1 a0 a1 a2 a3 (IntKind.wrap .i64 (a1 + (1 : Int) : Int))) := go (by kernel_rfl) (by kernel_rfl) T103 (by kernel_rfl)
noncomputable def jF103o2 : Jn (AV × List Ob) := (Classical.choose (exT fi103 (finO cfg fi103 false 2))).1
noncomputable def lF103o2 : Ln (AV × List Ob) := (Classical.choose (exT fi103 (finO cfg fi103 false 2))).2
theorem T103o2 : Tied cfg W fi103 (finO cfg fi103 false 2) jF103o2 lF103o2 := Classical.choose_spec (exT fi103 (finO cfg fi103 false 2))
noncomputable def L_slices_insertionSortCmpFunc_api_Val_o2_1 (i1 : Int) (i2 : Int) (i3 : Int) (l4 : List PV) (i5 : Int) : Option (AV × List Ob) := lF103o2 [0, 1] 2 (St.mk [(0, (AV.fx 0 0)), (1, (AV.pv (PV.int .i64 i1))), (2, (AV.pv (PV.int .i64 i2))), (3, (AV.fnv n_bag_Sort_2 [] [(AV.own 1 0)])), (8, (AV.pv (PV.int .i64 i3)))] [(Ob.fix 0 0 l4), (Ob.var false 0 (AV.pv (PV.int .i64 i5)))])
noncomputable def L_slices_insertionSortCmpFunc_api_Val_o2_2 (i6 : Int) (i7 : Int) (i8 : Int) (i9 : Int) (l10 : List PV) (i11 : Int) : Option (AV × List Ob) := lF103o2 [0, 1, 0, 0, 1, 2, 0, 1] 2 (St.mk [(0, (AV.fx 0 0)), (1, (AV.pv (PV.int .i64 i6))), (2, (AV.pv (PV.int .i64 i7))), (3, (AV.fnv n_bag_Sort_2 [] [(AV.own 1 0)])), (8, (AV.pv (PV.int .i64 i8))), (9, (AV.pv (PV.int .i64 i9)))] [(Ob.fix 0 0 l10), (Ob.var false 0 (AV.pv (PV.int .i64 i11)))])
noncomputable def J_slices_insertionSortCmpFunc_api_Val_o2_3 (i23 : Int) (i24 : Int) (i25 : Int) (i26 : Int) (l27 : List PV) (i28 : Int) : Option (AV × List Ob) := jF103o2 [1, 2, 0, 1, 0, 0, 1, 2, 0, 1] (St.mk [(0, (AV.fx 0 0)), (1, (AV.pv (PV.int .i64 i23))), (2, (AV.pv (PV.int .i64 i24))), (3, (AV.fnv n_bag_Sort_2 [] [(AV.own 1 0)])), (8, (AV.pv (PV.int .i64 i25))), (9, (AV.pv (PV.int .i64 i26)))] [(Ob.fix 0 0 l27), (Ob.var false 0 (AV.pv (PV.int .i64 i28)))])
theorem L_slices_insertionSortCmpFunc_api_Val_o2_1_eq (i1 : Int) (i2 : Int) (i3 : Int) (l4 : List PV) (i5 : Int) : L_slices_insertionSortCmpFunc_api_Val_o2_1 i1 i2 i3 l4 i5 =
  (bif (decide (i3 < i2)) then (L_slices_insertionSortCmpFunc_api_Val_o2_2 i1 i2 i3 i3 l4 i5) else (some ((AV.pv (PV.tup [])), [(Ob.fix 0 0 l4), (Ob.var false 0 (AV.pv (PV.int .i64 i5)))]))) := (T103o2.loop [1, 0] 2 _ rfl).trans (by kernel_rfl)
theorem L_slices_insertionSortCmpFunc_api_Val_o2_2_eq (i6 : Int) (i7 : Int) (i8 : Int) (i9 : Int) (l10 : List PV) (i11 : Int) : L_slices_insertionSortCmpFunc_api_Val_o2_2 i6 i7 i8 i9 l10 i11 =
  (bif (decide (GT.gt i9 i6)) then (bif ((true && (decide ((0 : Int) ≤ i9))) && (decide (i9 < (((List.length l10) : Nat) : Int)))) then (((l10)[(Int.toNat i9)]?).bind (fun v12 => (c_s3 v12 (fun v13 => (bif ((true && (decide ((0 : Int) ≤ (IntKind.wrap .i64 (i9 - (1 : Int) : Int))))) && (decide ((IntKind.wrap .i64 (i9 - (1 : Int) : Int)) < (((List.length l10) : Nat) : Int)))) then (((l10)[(Int.toNat (IntKind.wrap .i64 (i9 - (1 : Int) : Int)))]?).bind (fun v14 => (c_s3 v14 (fun v15 => (((W n_bag_Sort_2 false [(AV.pv (PV.slice 3 v13)), (AV.pv (PV.slice 3 v15)), (AV.own 0 0)] [(Ob.var false 0 (AV.pv (PV.int .i64 i11)))])).bind (fun v19 => (k_5b106d v19 (fun v20 v21 => (c_i64 v20 (fun v22 => (bif (decide (v22 < (0 : Int))) then (J_slices_insertionSortCmpFunc_api_Val_o2_3 i6 i7 i8 i9 l10 v21) else (L_slices_insertionSortCmpFunc_api_Val_o2_1 i6 i7 (IntKind.wrap .i64 (i8 + (1 : Int) : Int)) l10 v21)))))))))))) else none))))) else none) else (L_slices_insertionSortCmpFunc_api_Val_o2_1 i6 i7 (IntKind.wrap .i64 (i8 + (1 : Int) : Int)) l10 i11)) := (T103o2.loop [1, 0, 2, 1, 0, 0, 1, 0] 2 _ rfl).trans (by kernel_rfl)
theorem J_slices_insertionSortCmpFunc_api_Val_o2_3_eq (i23 : Int) (i24 : Int) (i25 : Int) (i26 : Int) (l27 : List PV) (i28 : Int) : J_slices_insertionSortCmpFunc_api_Val_o2_3 i23 i24 i25 i26 l27 i28 =
  (bif ((true && (decide ((0 : Int) ≤ (IntKind.wrap .i64 (i26 - (1 : Int) : Int))))) && (decide ((IntKind.wrap .i64 (i26 - (1 : Int) : Int)) < (((List.length l27) : Nat) : Int)))) then (((l27)[(Int.toNat (IntKind.wrap .i64 (i26 - (1 : Int) : Int)))]?).bind (fun v29 => (c_s3 v29 (fun v30 => (bif ((true && (decide ((0 : Int) ≤ i26))) && (decide (i26 < (((List.length l27) : Nat) : Int)))) then (((l27)[(Int.toNat i26)]?).bind (fun v31 => (c_s3 v31 (fun v32 => (bif ((true && (decide ((0 : Int) ≤ i26))) && (decide (i26 < (((List.length l27) : Nat) : Int)))) then (((l27)[(Int.toNat i26)]?).bind (fun v33 => (bif ((true && (decide ((0 : Int) ≤ (IntKind.wrap .i64 (i26 - (1 : Int) : Int))))) && (decide ((IntKind.wrap .i64 (i26 - (1 : Int) : Int)) < (((List.length (List.set l27 (Int.toNat i26) (PV.slice 3 v30))) : Nat) : Int)))) then ((((List.set l27 (Int.toNat i26) (PV.slice 3 v30)))[(Int.toNat (IntKind.wrap .i64 (i26 - (1 : Int) : Int)))]?).bind (fun v34 => (L_slices_insertionSortCmpFunc_api_Val_o2_2 i23 i24 i25 (IntKind.wrap .i64 (i26 - (1 : Int) : Int)) (List.set (List.set l27 (Int.toNat i26) (PV.slice 3 v30)) (Int.toNat (IntKind.wrap .i64 (i26 - (1 : Int) : Int))) (PV.slice 3 v32)) i28))) else none))) else none))))) else none))))) else none) := (T103o2.join [1, 0, 2, 1, 0, 0, 1, 0, 2, 1] _).trans (by kernel_rfl)
theorem o_slices_insertionSortCmpFunc_api_Val_o2_1 (i0 : Int) (i1 : Int) (l2 : List PV) (i3 : Int) : W n_slices_insertionSortCmpFunc_api_Val false [(AV.fx 0 0), (AV.pv (PV.int .i64 i0)), (AV.pv (PV.int .i64 i1)), (AV.fnv n_bag_Sort_2 [] [(AV.own 1 0)])] [(Ob.fix 0 0 l2), (Ob.var false 0 (AV.pv (PV.int .i64 i3)))] =
  (L_slices_insertionSortCmpFunc_api_Val_o2_1 i0 i1 (IntKind.wrap .i64 (i0 + (1 : Int) : Int)) l2 i3) := goO (by kernel_rfl) (by kernel_rfl) T103o2 rfl (by kernel_rfl)
noncomputable def jF104 : Jn PV := (Classical.choose (exT fi104 (fin cfg fi104))).1
noncomputable def lF104 : Ln PV := (Classical.choose (exT fi104 (fin cfg fi104))).2
theorem T104 : Tied cfg W fi104 (fin cfg fi104) jF104 lF104 := Classical.choose_spec (exT fi104 (fin cfg fi104))
noncomputable def L_slices_symMergeCmpFunc_api_Val_1 (l1 : List PV) (i2 : Int) (p3 : PV) (i4 : Int) (i5 : Int) : Option PV := lF104 [0, 0, 1, 1, 0, 1, 0] 0 (St.mk [(0, (AV.pv (PV.slice 0 l1))), (1, (AV.pv (PV.int .i64 i2))), (4, (AV.pv p3)), (10, (AV.pv (PV.int .i64 i4))), (11, (AV.pv (PV.int .i64 i5)))] [])
noncomputable def L_slices_symMergeCmpFunc_api_Val_2 (l6 : List PV) (i7 : Int) (p8 : PV) (i9 : Int) (i10 : Int) : Option PV := lF104 [0, 0, 1, 1, 0, 1, 0, 1] 0 (St.mk [(0, (AV.pv (PV.slice 0 l6))), (2, (AV.pv (PV.int .i64 i7))), (4, (AV.pv p8)), (14, (AV.pv (PV.int .i64 i9))), (15, (AV.pv (PV.int .i64 i10)))] [])
noncomputable def J_slices_symMergeCmpFunc_api_Val_3 (l11 : List PV) (i12 : Int) (i13 : Int) (i14 : Int) (p15 : PV) (i16 : Int) (i17 : Int) (i18 : Int) (i19 : Int) : Option PV := jF104 [1, 1, 1, 1, 1, 1] (St.mk [(0, (AV.pv (PV.slice 0 l11))), (1, (AV.pv (PV.int .i64 i12))), (2, (AV.pv (PV.int .i64 i13))), (3, (AV.pv (PV.int .i64 i14))), (4, (AV.pv p15)), (18, (AV.pv (PV.int .i64 i16))), (19, (AV.pv (PV.int .i64 i17))), (20, (AV.pv (PV.int .i64 i18))), (21, (AV.pv (PV.int .i64 i19)))] [])
noncomputable def L_slices_symMergeCmpFunc_api_Val_4 (l27 : List PV) (i28 : Int) (i29 : Int) : Option PV := lF104 [0, 1, 0, 1, 1, 1, 0, 1, 0] 0 (St.mk [(0, (AV.pv (PV.slice 0 l27))), (10, (AV.pv (PV.int .i64 i28))), (13, (AV.pv (PV.int .i64 i29)))] [])
noncomputable def L_slices_symMergeCmpFunc_api_Val_5 (l37 : List PV) (i38 : Int) (i39 : Int) : Option PV := lF104 [0, 1, 0, 1, 1, 1, 0, 1, 0, 1] 0 (St.mk [(0, (AV.pv (PV.slice 0 l37))), (14, (AV.pv (PV.int .i64 i38))), (17, (AV.pv (PV.int .i64 i39)))] [])
noncomputable def L_slices_symMergeCmpFunc_api_Val_6 (l40 : List PV) (i41 : Int) (i42 : Int) (i43 : Int) (p44 : PV) (i45 : Int) (i46 : Int) (i47 : Int) (i48 : Int) (i49 : Int) : Option PV := lF104 [0, 0, 1, 1, 1, 1, 1, 1, 1] 0 (St.mk [(0, (AV.pv (PV.slice 0 l40))), (1, (AV.pv (PV.int .i64 i41))), (2, (AV.pv (PV.int .i64 i42))), (3, (AV.pv (PV.int .i64 i43))), (4, (AV.pv p44)), (18, (AV.pv (PV.int .i64 i45))), (19, (AV.pv (PV.int .i64 i46))), (20, (AV.pv (PV.int .i64 i47))), (21, (AV.pv (PV.int .i64 i48))), (22, (AV.pv (PV.int .i64 i49)))] [])
noncomputable def J_slices_symMergeCmpFunc_api_Val_7 (l67 : List PV) (i68 : Int) (i69 : Int) (i70 : Int) (p71 : PV) (i72 : Int) (i73 : Int) (i74 : Int) (b75 : Bool) : Option PV := jF104 [1, 0, 1, 1, 1, 1, 1, 1, 1, 1, 1] (St.mk [(0, (AV.pv (PV.slice 0 l67))), (1, (AV.pv (PV.int .i64 i68))), (2, (AV.pv (PV.int .i64 i69))), (3, (AV.pv (PV.int .i64 i70))), (4, (AV.pv p71)), (18, (AV.pv (PV.int .i64 i72))), (20, (AV.pv (PV.int .i64 i73))), (24, (AV.pv (PV.int .i64 i74))), (185, (AV.pv (PV.bool b75)))] [])
noncomputable def J_slices_symMergeCmpFunc_api_Val_8 (l77 : List PV) (i78 : Int) (i79 : Int) (p80 : PV) (i81 : Int) (i82 : Int) (i83 : Int) : Option PV := jF104 [1, 1, 1, 1, 1, 1, 1, 1, 1, 1] (St.mk [(0, (AV.pv (PV.slice 0 l77))), (1, (AV.pv (PV.int .i64 i78))), (3, (AV.pv (PV.int .i64 i79))), (4, (AV.pv p80)), (18, (AV.pv (PV.int .i64 i81))), (20, (AV.pv (PV.int .i64 i82))), (24, (AV.pv (PV.int .i64 i83)))] [])
noncomputable def J_slices_symMergeCmpFunc_api_Val_9 (l84 : List PV) (i85 : Int) (i86 : Int) (p87 : PV) (i88 : Int) (i89 : Int) (i90 : Int) (b91 : Bool) : Option PV := jF104 [1, 0, 1, 1, 1, 1, 1, 1, 1, 1, 1, 1] (St.mk [(0, (AV.pv (PV.slice 0 l84))), (1, (AV.pv (PV.int .i64 i85))), (3, (AV.pv (PV.int .i64 i86))), (4, (AV.pv p87)), (18, (AV.pv (PV.int .i64 i88))), (20, (AV.pv (PV.int .i64 i89))), (24, (AV.pv (PV.int .i64 i90))), (199, (AV.pv (PV.bool b91)))] [])
noncomputable def J_slices_symMergeCmpFunc_api_Val_10 (l93 : List PV) (i94 : Int) (p95 : PV) (i96 : Int) (i97 : Int) : Option PV := jF104 [1, 1, 1, 1, 1, 1, 1, 1, 1, 1, 1] (St.mk [(0, (AV.pv (PV.slice 0 l93))), (3, (AV.pv (PV.int .i64 i94))), (4, (AV.pv p95)), (18, (AV.pv (PV.int .i64 i96))), (24, (AV.pv (PV.int .i64 i97)))] [])
noncomputable def J_slices_symMergeCmpFunc_api_Val_11 (l98 : List PV) (i99 : Int) (p100 : PV) (i101 : Int) (i102 : Int) (b103 : Bool) : Option PV := jF104 [1, 1, 1, 1, 1, 1, 1, 1, 1, 1, 1, 1] (St.mk [(0, (AV.pv (PV.slice 0 l98))), (3, (AV.pv (PV.int .i64 i99))), (4, (AV.pv p100)), (18, (AV.pv (PV.int .i64 i101))), (24, (AV.pv (PV.int .i64 i102))), (213, (AV.pv (PV.bool b103)))] [])
theorem L_slices_symMergeCmpFunc_api_Val_1_eq (l1 : List PV) (i2 : Int) (p3 : PV) (i4 : Int) (i5 : Int) : L_slices_symMergeCmpFunc_api_Val_1 l1 i2 p3 i4 i5 =
  (bif (decide (i4 < i5)) then (bif (decide ((0 : Int) ≤ (IntKind.wrap .i64 (Int.fdiv (IntKind.wrap .u64 (IntKind.wrap .i64 (i4 + i5 : Int))) (2 : Int))))) then (((l1)[(Int.toNat (IntKind.wrap .i64 (Int.fdiv (IntKind.wrap .u64 (IntKind.wrap .i64 (i4 + i5 : Int))) (2 : Int))))]?).bind (fun v20 => (c_s3 v20 (fun v21 => (bif (decide ((0 : Int) ≤ i2)) then (((l1)[(Int.toNat i2)]?).bind (fun v22 => (c_s3 v22 (fun v23 => (((PV.asFn p3)).bind (fun v24 => (((wc W (Prod.fst v24) (((Prod.fst (Prod.snd v24)) ++ [(PV.slice 3 v21), (PV.slice 3 v23)]) ++ (Prod.snd (Prod.snd v24))))).bind (fun v25 => (c_i64 v25 (fun v26 => (bif (decide (v26 < (0 : Int))) then (L_slices_symMergeCmpFunc_api_Val_1 l1 i2 p3 (IntKind.wrap .i64 ((IntKind.wrap .i64 (Int.fdiv (IntKind.wrap .u64 (IntKind.wrap .i64 (i4 + i5 : Int))) (2 : Int))) + (1 : Int) : Int)) i5) else (L_slices_symMergeCmpFunc_api_Val_1 l1 i2 p3 i4 (IntKind.wrap .i64 (Int.fdiv (IntKind.wrap .u64 (IntKind.wrap .i64 (i4 + i5 : Int))) (2 : Int))))))))))))))) else none))))) else none) else (L_slices_symMergeCmpFunc_api_Val_4 l1 i4 i2)) := (T104.loop [0, 1, 0, 1, 1, 0, 0] 0 _ rfl).trans (by kernel_rfl)
theorem L_slices_symMergeCmpFunc_api_Val_2_eq (l6 : List PV) (i7 : Int) (p8 : PV) (i9 : Int) (i10 : Int) : L_slices_symMergeCmpFunc_api_Val_2 l6 i7 p8 i9 i10 =
  (bif (decide (i9 < i10)) then (bif (decide ((0 : Int) ≤ i7)) then (((l6)[(Int.toNat i7)]?).bind (fun v30 => (c_s3 v30 (fun v31 => (bif (decide ((0 : Int) ≤ (IntKind.wrap .i64 (Int.fdiv (IntKind.wrap .u64 (IntKind.wrap .i64 (i9 + i10 : Int))) (2 : Int))))) then (((l6)[(Int.toNat (IntKind.wrap .i64 (Int.fdiv (IntKind.wrap .u64 (IntKind.wrap .i64 (i9 + i10 : Int))) (2 : Int))))]?).bind (fun v32 => (c_s3 v32 (fun v33 => (((PV.asFn p8)).bind (fun v34 => (((wc W (Prod.fst v34) (((Prod.fst (Prod.snd v34)) ++ [(PV.slice 3 v31), (PV.slice 3 v33)]) ++ (Prod.snd (Prod.snd v34))))).bind (fun v35 => (c_i64 v35 (fun v36 => (bif (!(decide (v36 < (0 : Int)))) then (L_slices_symMergeCmpFunc_api_Val_2 l6 i7 p8 (IntKind.wrap .i64 ((IntKind.wrap .i64 (Int.fdiv (IntKind.wrap .u64 (IntKind.wrap .i64 (i9 + i10 : Int))) (2 : Int))) + (1 : Int) : Int)) i10) else (L_slices_symMergeCmpFunc_api_Val_2 l6 i7 p8 i9 (IntKind.wrap .i64 (Int.fdiv (IntKind.wrap .u64 (IntKind.wrap .i64 (i9 + i10 : Int))) (2 : Int))))))))))))))) else none))))) else none) else (L_slices_symMergeCmpFunc_api_Val_5 l6 i9 i7)) := (T104.loop [1, 0, 1, 0, 1, 1, 0, 0] 0 _ rfl).trans (by kernel_rfl)
theorem J_slices_symMergeCmpFunc_api_Val_3_eq (l11 : List PV) (i12 : Int) (i13 : Int) (i14 : Int) (p15 : PV) (i16 : Int) (i17 : Int) (i18 : Int) (i19 : Int) : J_slices_symMergeCmpFunc_api_Val_3 l11 i12 i13 i14 p15 i16 i17 i18 i19 =
  (L_slices_symMergeCmpFunc_api_Val_6 l11 i12 i13 i14 p15 i16 i17 i18 i19 (IntKind.wrap .i64 (i17 - (1 : Int) : Int))) := (T104.join [1, 1, 1, 1, 1, 1] _).trans (by kernel_rfl)
theorem L_slices_symMergeCmpFunc_api_Val_4_eq (l27 : List PV) (i28 : Int) (i29 : Int) : L_slices_symMergeCmpFunc_api_Val_4 l27 i28 i29 =
  (bif (decide (i29 < (IntKind.wrap .i64 (i28 - (1 : Int) : Int)))) then (bif (decide ((0 : Int) ≤ (IntKind.wrap .i64 (i29 + (1 : Int) : Int)))) then (((l27)[(Int.toNat (IntKind.wrap .i64 (i29 + (1 : Int) : Int)))]?).bind (fun v50 => (c_s3 v50 (fun v51 => (bif (decide ((0 : Int) ≤ i29)) then (((l27)[(Int.toNat i29)]?).bind (fun v52 => (c_s3 v52 (fun v53 => (bif (decide ((0 : Int) ≤ i29)) then (((l27)[(Int.toNat i29)]?).bind (fun v54 => none)) else none))))) else none))))) else none) else (some (PV.tup []))) := (T104.loop [0, 1, 0, 1, 1, 1, 0, 1, 0] 0 _ rfl).trans (by kernel_rfl)
theorem L_slices_symMergeCmpFunc_api_Val_5_eq (l37 : List PV) (i38 : Int) (i39 : Int) : L_slices_symMergeCmpFunc_api_Val_5 l37 i38 i39 =
  (bif (decide (GT.gt i39 i38)) then (bif (decide ((0 : Int) ≤ (IntKind.wrap .i64 (i39 - (1 : Int) : Int)))) then (((l37)[(Int.toNat (IntKind.wrap .i64 (i39 - (1 : Int) : Int)))]?).bind (fun v55 => (c_s3 v55 (fun v56 => (bif (decide ((0 : Int) ≤ i39)) then (((l37)[(Int.toNat i39)]?).bind (fun v57 => (c_s3 v57 (fun v58 => (bif (decide ((0 : Int) ≤ i39)) then (((l37)[(Int.toNat i39)]?).bind (fun v59 => none)) else none))))) else none))))) else none) else (some (PV.tup []))) := (T104.loop [1, 0, 1, 0, 1, 1, 1, 0, 1, 0] 0 _ rfl).trans (by kernel_rfl)
theorem L_slices_symMergeCmpFunc_api_Val_6_eq (l40 : List PV) (i41 : Int) (i42 : Int) (i43 : Int) (p44 : PV) (i45 : Int) (i46 : Int) (i47 : Int) (i48 : Int) (i49 : Int) : L_slices_symMergeCmpFunc_api_Val_6 l40 i41 i42 i43 p44 i45 i46 i47 i48 i49 =
  (bif (decide (i47 < i48)) then (bif (decide ((0 : Int) ≤ (IntKind.wrap .i64 (i49 - (IntKind.wrap .i64 (Int.fdiv (IntKind.wrap .u64 (IntKind.wrap .i64 (i47 + i48 : Int))) (2 : Int))) : Int)))) then (((l40)[(Int.toNat (IntKind.wrap .i64 (i49 - (IntKind.wrap .i64 (Int.fdiv (IntKind.wrap .u64 (IntKind.wrap .i64 (i47 + i48 : Int))) (2 : Int))) : Int)))]?).bind (fun v60 => (c_s3 v60 (fun v61 => (bif (decide ((0 : Int) ≤ (IntKind.wrap .i64 (Int.fdiv (IntKind.wrap .u64 (IntKind.wrap .i64 (i47 + i48 : Int))) (2 : Int))))) then (((l40)[(Int.toNat (IntKind.wrap .i64 (Int.fdiv (IntKind.wrap .u64 (IntKind.wrap .i64 (i47 + i48 : Int))) (2 : Int))))]?).bind (fun v62 => (c_s3 v62 (fun v63 => (((PV.asFn p44)).bind (fun v64 => (((wc W (Prod.fst v64) (((Prod.fst (Prod.snd v64)) ++ [(PV.slice 3 v61), (PV.slice 3 v63)]) ++ (Prod.snd (Prod.snd v64))))).bind (fun v65 => (c_i64 v65 (fun v66 => (bif (!(decide (v66 < (0 : Int)))) then (L_slices_symMergeCmpFunc_api_Val_6 l40 i41 i42 i43 p44 i45 i46 (IntKind.wrap .i64 ((IntKind.wrap .i64 (Int.fdiv (IntKind.wrap .u64 (IntKind.wrap .i64 (i47 + i48 : Int))) (2 : Int))) + (1 : Int) : Int)) i48 i49) else (L_slices_symMergeCmpFunc_api_Val_6 l40 i41 i42 i43 p44 i45 i46 i47 (IntKind.wrap .i64 (Int.fdiv (IntKind.wrap .u64 (IntKind.wrap .i64 (i47 + i48 : Int))) (2 : Int))) i49)))))))))))) else none))))) else none) else (bif (decide (i47 < i42)) then (J_slices_symMergeCmpFunc_api_Val_7 l40 i41 i42 i43 p44 i45 i47 (IntKind.wrap .i64 (i46 - i47 : Int)) (decide (i42 < (IntKind.wrap .i64 (i46 - i47 : Int))))) else (J_slices_symMergeCmpFunc_api_Val_7 l40 i41 i42 i43 p44 i45 i47 (IntKind.wrap .i64 (i46 - i47 : Int)) false))) := (T104.loop [1, 1, 1, 1, 1, 1, 1, 0, 0] 0 _ rfl).trans (by kernel_rfl)
theorem J_slices_symMergeCmpFunc_api_Val_7_eq (l67 : List PV) (i68 : Int) (i69 : Int) (i70 : Int) (p71 : PV) (i72 : Int) (i73 : Int) (i74 : Int) (b75 : Bool) : J_slices_symMergeCmpFunc_api_Val_7 l67 i68 i69 i70 p71 i72 i73 i74 b75 =
  (bif b75 then (((wc W n_slices_rotateCmpFunc_api_Val [(PV.slice 0 l67), (PV.int .i64 i73), (PV.int .i64 i69), (PV.int .i64 i74), p71])).bind (fun v76 => (J_slices_symMergeCmpFunc_api_Val_8 l67 i68 i70 p71 i72 i73 i74))) else (J_slices_symMergeCmpFunc_api_Val_8 l67 i68 i70 p71 i72 i73 i74)) := (T104.join [1, 1, 1, 1, 1, 1, 1, 1, 1, 0, 1] _).trans (by kernel_rfl)
theorem J_slices_symMergeCmpFunc_api_Val_8_eq (l77 : List PV) (i78 : Int) (i79 : Int) (p80 : PV) (i81 : Int) (i82 : Int) (i83 : Int) : J_slices_symMergeCmpFunc_api_Val_8 l77 i78 i79 p80 i81 i82 i83 =
  (bif (decide (i78 < i82)) then (J_slices_symMergeCmpFunc_api_Val_9 l77 i78 i79 p80 i81 i82 i83 (decide (i82 < i81))) else (J_slices_symMergeCmpFunc_api_Val_9 l77 i78 i79 p80 i81 i82 i83 false)) := (T104.join [1, 1, 1, 1, 1, 1, 1, 1, 1, 1] _).trans (by kernel_rfl)
theorem J_slices_symMergeCmpFunc_api_Val_9_eq (l84 : List PV) (i85 : Int) (i86 : Int) (p87 : PV) (i88 : Int) (i89 : Int) (i90 : Int) (b91 : Bool) : J_slices_symMergeCmpFunc_api_Val_9 l84 i85 i86 p87 i88 i89 i90 b91 =
  (bif b91 then (((wc W n_slices_symMergeCmpFunc_api_Val [(PV.slice 0 l84), (PV.int .i64 i85), (PV.int .i64 i89), (PV.int .i64 i88), p87])).bind (fun v92 => (J_slices_symMergeCmpFunc_api_Val_10 l84 i86 p87 i88 i90))) else (J_slices_symMergeCmpFunc_api_Val_10 l84 i86 p87 i88 i90)) := (T104.join [1, 1, 1, 1, 1, 1, 1, 1, 1, 1, 0, 1] _).trans (by kernel_rfl)
theorem J_slices_symMergeCmpFunc_api_Val_10_eq (l93 : List PV) (i94 : Int) (p95 : PV) (i96 : Int) (i97 : Int) : J_slices_symMergeCmpFunc_api_Val_10 l93 i94 p95 i96 i97 =
  (bif (decide (i96 < i97)) then (J_slices_symMergeCmpFunc_api_Val_11 l93 i94 p95 i96 i97 (decide (i97 < i94))) else (J_slices_symMergeCmpFunc_api_Val_11 l93 i94 p95 i96 i97 false)) := (T104.join [1, 1, 1, 1, 1, 1, 1, 1, 1, 1, 1] _).trans (by kernel_rfl)
theorem J_slices_symMergeCmpFunc_api_Val_11_eq (l98 : List PV) (i99 : Int) (p100 : PV) (i101 : Int) (i102 : Int) (b103 : Bool) : J_slices_symMergeCmpFunc_api_Val_11 l98 i99 p100 i101 i102 b103 =
  (bif b103 then (((wc W n_slices_symMergeCmpFunc_api_Val [(PV.slice 0 l98), (PV.int .i64 i101), (PV.int .i64 i102), (PV.int .i64 i99), p100])).bind (fun v104 => (some (PV.tup [])))) else (some (PV.tup []))) := (T104.join [1, 1, 1, 1, 1, 1, 1, 1, 1, 1, 1, 1] _).trans (by kernel_rfl)
theorem e_slices_symMergeCmpFunc_api_Val (a0 : List PV) (a1 : Int) (a2 : Int) (a3 : Int) (a4 : PV) : wc W n_slices_symMergeCmpFunc_api_Val [(PV.slice 0 a0), (PV.int .i64 a1), (PV.int .i64 a2), (PV.int .i64 a3), a4] =
  (bif ((IntKind.wrap .i64 (a2 - a1 : Int)) == (1 : Int)) then (L_slices_symMergeCmpFunc_api_Val_1 a0 a1 a4 a2 a3) else (bif ((IntKind.wrap .i64 (a3 - a2 : Int)) == (1 : Int)) then (L_slices_symMergeCmpFunc_api_Val_2 a0 a2 a4 a1 a2) else (bif (decide (GT.gt a2 (IntKind.wrap .i64 (Int.fdiv (IntKind.wrap .u64 (IntKind.wrap .i64 (a1 + a3 : Int))) (2 : Int))))) then (J_slices_symMergeCmpFunc_api_Val_3 a0 a1 a2 a3 a4 (IntKind.wrap .i64 (Int.fdiv (IntKind.wrap .u64 (IntKind.wrap .i64 (a1 + a3 : Int))) (2 : Int))) (IntKind.wrap .i64 ((IntKind.wrap .i64 (Int.fdiv (IntKind.wrap .u64 (IntKind.wrap .i64 (a1 + a3 : Int))) (2 : Int))) + a2 : Int)) (IntKind.wrap .i64 ((IntKind.wrap .i64 ((IntKind.wrap .i64 (Int.fdiv (IntKind.wrap .u64 (IntKind.wrap .i64 (a1 + a3 : Int))) (2 : Int))) + a2 : Int)) - a3 : Int)) (IntKind.wrap .i64 (Int.fdiv (IntKind.wrap .u64 (IntKind.wrap .i64 (a1 + a3 : Int))) (2 : Int)))) else (J_slices_symMergeCmpFunc_api_Val_3 a0 a1 a2 a3 a4 (IntKind.wrap .i64 (Int.fdiv (IntKind.wrap .u64 (IntKind.wrap .i64 (a1 + a3 : Int))) (2 : Int))) (IntKind.wrap .i64 ((IntKind.wrap .i64 (Int.fdiv (IntKind.wrap .u64 (IntKind.wrap .i64 (a1 + a3 : Int))) (2 : Int))) + a2 : Int)) a1 a2)))) := go (by kernel_rfl) (by kernel_rfl) T104 (by kernel_rfl)
end Go.Cf

namespace Go.Cf
open Go Go.Ab
set_option linter.unusedVariables false
set_option maxRecDepth 100000
noncomputable def jF104o2 : Jn (AV × List Ob) := (Classical.choose (exT fi104 (finO cfg fi104 false 2))).1
noncomputable def lF104o2 : Ln (AV × List Ob) := (Classical.choose (exT fi104 (finO cfg fi104 false 2))).2
theorem T104o2 : Tied cfg W fi104 (finO cfg fi104 false 2) jF104o2 lF104o2 := Classical.choose_spec (exT fi104 (finO cfg fi104 false 2))
noncomputable def L_slices_symMergeCmpFunc_api_Val_o2_1 (i1 : Int) (i2 : Int) (i3 : Int) (l4 : List PV) (i5 : Int) : Option (AV × List Ob) := lF104o2 [0, 0, 1, 1, 0, 1, 0] 2 (St.mk [(0, (AV.fx 0 0)), (1, (AV.pv (PV.int .i64 i1))), (4, (AV.fnv n_bag_Sort_2 [] [(AV.own 1 0)])), (10, (AV.pv (PV.int .i64 i2))), (11, (AV.pv (PV.int .i64 i3)))] [(Ob.fix 0 0 l4), (Ob.var false 0 (AV.pv (PV.int .i64 i5)))])
noncomputable def L_slices_symMergeCmpFunc_api_Val_o2_2 (i6 : Int) (i7 : Int) (i8 : Int) (l9 : List PV) (i10 : Int) : Option (AV × List Ob) := lF104o2 [0, 0, 1, 1, 0, 1, 0, 1] 2 (St.mk [(0, (AV.fx 0 0)), (2, (AV.pv (PV.int .i64 i6))), (4, (AV.fnv n_bag_Sort_2 [] [(AV.own 1 0)])), (14, (AV.pv (PV.int .i64 i7))), (15, (AV.pv (PV.int .i64 i8)))] [(Ob.fix 0 0 l9), (Ob.var false 0 (AV.pv (PV.int .i64 i10)))])
noncomputable def J_slices_symMergeCmpFunc_api_Val_o2_3 (i11 : Int) (i12 : Int) (i13 : Int) (i14 : Int) (i15 : Int) (i16 : Int) (i17 : Int) (l18 : List PV) (i19 : Int) : Option (AV × List Ob) := jF104o2 [1, 1, 1, 1, 1, 1] (St.mk [(0, (AV.fx 0 0)), (1, (AV.pv (PV.int .i64 i11))), (2, (AV.pv (PV.int .i64 i12))), (3, (AV.pv (PV.int .i64 i13))), (4, (AV.fnv n_bag_Sort_2 [] [(AV.own 1 0)])), (18, (AV.pv (PV.int .i64 i14))), (19, (AV.pv (PV.int .i64 i15))), (20, (AV.pv (PV.int .i64 i16))), (21, (AV.pv (PV.int .i64 i17)))] [(Ob.fix 0 0 l18), (Ob.var false 0 (AV.pv (PV.int .i64 i19)))])
noncomputable def L_slices_symMergeCmpFunc_api_Val_o2_4 (i31 : Int) (i32 : Int) (l33 : List PV) (i34 : Int) : Option (AV × List Ob) := lF104o2 [0, 1, 0, 1, 1, 1, 0, 1, 0] 2 (St.mk [(0, (AV.fx 0 0)), (10, (AV.pv (PV.int .i64 i31))), (13, (AV.pv (PV.int .i64 i32)))] [(Ob.fix 0 0 l33), (Ob.var false 0 (AV.pv (PV.int .i64 i34)))])
noncomputable def L_slices_symMergeCmpFunc_api_Val_o2_5 (i46 : Int) (i47 : Int) (l48 : List PV) (i49 : Int) : Option (AV × List Ob) := lF104o2 [0, 1, 0, 1, 1, 1, 0, 1, 0, 1] 2 (St.mk [(0, (AV.fx 0 0)), (14, (AV.pv (PV.int .i64 i46))), (17, (AV.pv (PV.int .i64 i47)))] [(Ob.fix 0 0 l48), (Ob.var false 0 (AV.pv (PV.int .i64 i49)))])
noncomputable def L_slices_symMergeCmpFunc_api_Val_o2_6 (i50 : Int) (i51 : Int) (i52 : Int) (i53 : Int) (i54 : Int) (i55 : Int) (i56 : Int) (i57 : Int) (l58 : List PV) (i59 : Int) : Option (AV × List Ob) := lF104o2 [0, 0, 1, 1, 1, 1, 1, 1, 1] 2 (St.mk [(0, (AV.fx 0 0)), (1, (AV.pv (PV.int .i64 i50))), (2, (AV.pv (PV.int .i64 i51))), (3, (AV.pv (PV.int .i64 i52))), (4, (AV.fnv n_bag_Sort_2 [] [(AV.own 1 0)])), (18, (AV.pv (PV.int .i64 i53))), (19, (AV.pv (PV.int .i64 i54))), (20, (AV.pv (PV.int .i64 i55))), (21, (AV.pv (PV.int .i64 i56))), (22, (AV.pv (PV.int .i64 i57)))] [(Ob.fix 0 0 l58), (Ob.var false 0 (AV.pv (PV.int .i64 i59)))])
noncomputable def J_slices_symMergeCmpFunc_api_Val_o2_7 (i83 : Int) (i84 : Int) (i85 : Int) (i86 : Int) (i87 : Int) (i88 : Int) (b89 : Bool) (l90 : List PV) (i91 : Int) : Option (AV × List Ob) := jF104o2 [1, 0, 1, 1, 1, 1, 1, 1, 1, 1, 1] (St.mk [(0, (AV.fx 0 0)), (1, (AV.pv (PV.int .i64 i83))), (2, (AV.pv (PV.int .i64 i84))), (3, (AV.pv (PV.int .i64 i85))), (4, (AV.fnv n_bag_Sort_2 [] [(AV.own 1 0)])), (18, (AV.pv (PV.int .i64 i86))), (20, (AV.pv (PV.int .i64 i87))), (24, (AV.pv (PV.int .i64 i88))), (185, (AV.pv (PV.bool b89)))] [(Ob.fix 0 0 l90), (Ob.var false 0 (AV.pv (PV.int .i64 i91)))])
noncomputable def J_slices_symMergeCmpFunc_api_Val_o2_8 (i101 : Int) (i102 : Int) (i103 : Int) (i104 : Int) (i105 : Int) (l106 : List PV) (i107 : Int) : Option (AV × List Ob) := jF104o2 [1, 1, 1, 1, 1, 1, 1, 1, 1, 1] (St.mk [(0, (AV.fx 0 0)), (1, (AV.pv (PV.int .i64 i101))), (3, (AV.pv (PV.int .i64 i102))), (4, (AV.fnv n_bag_Sort_2 [] [(AV.own 1 0)])), (18, (AV.pv (PV.int .i64 i103))), (20, (AV.pv (PV.int .i64 i104))), (24, (AV.pv (PV.int .i64 i105)))] [(Ob.fix 0 0 l106), (Ob.var false 0 (AV.pv (PV.int .i64 i107)))])
noncomputable def J_slices_symMergeCmpFunc_api_Val_o2_9 (i108 : Int) (i109 : Int) (i110 : Int) (i111 : Int) (i112 : Int) (b113 : Bool) (l114 : List PV) (i115 : Int) : Option (AV × List Ob) := jF104o2 [1, 0, 1, 1, 1, 1, 1, 1, 1, 1, 1, 1] (St.mk [(0, (AV.fx 0 0)), (1, (AV.pv (PV.int .i64 i108))), (3, (AV.pv (PV.int .i64 i109))), (4, (AV.fnv n_bag_Sort_2 [] [(AV.own 1 0)])), (18, (AV.pv (PV.int .i64 i110))), (20, (AV.pv (PV.int .i64 i111))), (24, (AV.pv (PV.int .i64 i112))), (199, (AV.pv (PV.bool b113)))] [(Ob.fix 0 0 l114), (Ob.var false 0 (AV.pv (PV.int .i64 i115)))])
noncomputable def J_slices_symMergeCmpFunc_api_Val_o2_10 (i125 : Int) (i126 : Int) (i127 : Int) (l128 : List PV) (i129 : Int) : Option (AV × List Ob) := jF104o2 [1, 1, 1, 1, 1, 1, 1, 1, 1, 1, 1] (St.mk [(0, (AV.fx 0 0)), (3, (AV.pv (PV.int .i64 i125))), (4, (AV.fnv n_bag_Sort_2 [] [(AV.own 1 0)])), (18, (AV.pv (PV.int .i64 i126))), (24, (AV.pv (PV.int .i64 i127)))] [(Ob.fix 0 0 l128), (Ob.var false 0 (AV.pv (PV.int .i64 i129)))])
noncomputable def J_slices_symMergeCmpFunc_api_Val_o2_11 (i130 : Int) (i131 : Int) (i132 : Int) (b133 : Bool) (l134 : List PV) (i135 : Int) : Option (AV × List Ob) := jF104o2 [1, 1, 1, 1, 1, 1, 1, 1, 1, 1, 1, 1] (St.mk [(0, (AV.fx 0 0)), (3, (AV.pv (PV.int .i64 i130))), (4, (AV.fnv n_bag_Sort_2 [] [(AV.own 1 0)])), (18, (AV.pv (PV.int .i64 i131))), (24, (AV.pv (PV.int .i64 i132))), (213, (AV.pv (PV.bool b133)))] [(Ob.fix 0 0 l134), (Ob.var false 0 (AV.pv (PV.int .i64 i135)))])
theorem L_slices_symMergeCmpFunc_api_Val_o2_1_eq (i1 : Int) (i2 : Int) (i3 : Int) (l4 : List PV) (i5 : Int) : L_slices_symMergeCmpFunc_api_Val_o2_1 i1 i2 i3 l4 i5 =
  (bif (decide (i2 < i3)) then (bif ((true && (decide ((0 : Int) ≤ (IntKind.wrap .i64 (Int.fdiv (IntKind.wrap .u64 (IntKind.wrap .i64 (i2 + i3 : Int))) (2 : Int)))))) && (decide ((IntKind.wrap .i64 (Int.fdiv (IntKind.wrap .u64 (IntKind.wrap .i64 (i2 + i3 : Int))) (2 : Int))) < (((List.length l4) : Nat) : Int)))) then (((l4)[(Int.toNat (IntKind.wrap .i64 (Int.fdiv (IntKind.wrap .u64 (IntKind.wrap .i64 (i2 + i3 : Int))) (2 : Int))))]?).bind (fun v20 => (c_s3 v20 (fun v21 => (bif ((true && (decide ((0 : Int) ≤ i1))) && (decide (i1 < (((List.length l4) : Nat) : Int)))) then (((l4)[(Int.toNat i1)]?).bind (fun v22 => (c_s3 v22 (fun v23 => (((W n_bag_Sort_2 false [(AV.pv (PV.slice 3 v21)), (AV.pv (PV.slice 3 v23)), (AV.own 0 0)] [(Ob.var false 0 (AV.pv (PV.int .i64 i5)))])).bind (fun v27 => (k_5b106d v27 (fun v28 v29 => (c_i64 v28 (fun v30 => (bif (decide (v30 < (0 : Int))) then (L_slices_symMergeCmpFunc_api_Val_o2_1 i1 (IntKind.wrap .i64 ((IntKind.wrap .i64 (Int.fdiv (IntKind.wrap .u64 (IntKind.wrap .i64 (i2 + i3 : Int))) (2 : Int))) + (1 : Int) : Int)) i3 l4 v29) else (L_slices_symMergeCmpFunc_api_Val_o2_1 i1 i2 (IntKind.wrap .i64 (Int.fdiv (IntKind.wrap .u64 (IntKind.wrap .i64 (i2 + i3 : Int))) (2 : Int))) l4 v29)))))))))))) else none))))) else none) else (L_slices_symMergeCmpFunc_api_Val_o2_4 i2 i1 l4 i5)) := (T104o2.loop [0, 1, 0, 1, 1, 0, 0] 2 _ rfl).trans (by kernel_rfl)
theorem L_slices_symMergeCmpFunc_api_Val_o2_2_eq (i6 : Int) (i7 : Int) (i8 : Int) (l9 : List PV) (i10 : Int) : L_slices_symMergeCmpFunc_api_Val_o2_2 i6 i7 i8 l9 i10 =
  (bif (decide (i7 < i8)) then (bif ((true && (decide ((0 : Int) ≤ i6))) && (decide (i6 < (((List.length l9) : Nat) : Int)))) then (((l9)[(Int.toNat i6)]?).bind (fun v35 => (c_s3 v35 (fun v36 => (bif ((true && (decide ((0 : Int) ≤ (IntKind.wrap .i64 (Int.fdiv (IntKind.wrap .u64 (IntKind.wrap .i64 (i7 + i8 : Int))) (2 : Int)))))) && (decide ((IntKind.wrap .i64 (Int.fdiv (IntKind.wrap .u64 (IntKind.wrap .i64 (i7 + i8 : Int))) (2 : Int))) < (((List.length l9) : Nat) : Int)))) then (((l9)[(Int.toNat (IntKind.wrap .i64 (Int.fdiv (IntKind.wrap .u64 (IntKind.wrap .i64 (i7 + i8 : Int))) (2 : Int))))]?).bind (fun v37 => (c_s3 v37 (fun v38 => (((W n_bag_Sort_2 false [(AV.pv (PV.slice 3 v36)), (AV.pv (PV.slice 3 v38)), (AV.own 0 0)] [(Ob.var false 0 (AV.pv (PV.int .i64 i10)))])).bind (fun v42 => (k_5b106d v42 (fun v43 v44 => (c_i64 v43 (fun v45 => (bif (!(decide (v45 < (0 : Int)))) then (L_slices_symMergeCmpFunc_api_Val_o2_2 i6 (IntKind.wrap .i64 ((IntKind.wrap .i64 (Int.fdiv (IntKind.wrap .u64 (IntKind.wrap .i64 (i7 + i8 : Int))) (2 : Int))) + (1 : Int) : Int)) i8 l9 v44) else (L_slices_symMergeCmpFunc_api_Val_o2_2 i6 i7 (IntKind.wrap .i64 (Int.fdiv (IntKind.wrap .u64 (IntKind.wrap .i64 (i7 + i8 : Int))) (2 : Int))) l9 v44)))))))))))) else none))))) else none) else (L_slices_symMergeCmpFunc_api_Val_o2_5 i7 i6 l9 i10)) := (T104o2.loop [1, 0, 1, 0, 1, 1, 0, 0] 2 _ rfl).trans (by kernel_rfl)
theorem J_slices_symMergeCmpFunc_api_Val_o2_3_eq (i11 : Int) (i12 : Int) (i13 : Int) (i14 : Int) (i15 : Int) (i16 : Int) (i17 : Int) (l18 : List PV) (i19 : Int) : J_slices_symMergeCmpFunc_api_Val_o2_3 i11 i12 i13 i14 i15 i16 i17 l18 i19 =
  (L_slices_symMergeCmpFunc_api_Val_o2_6 i11 i12 i13 i14 i15 i16 i17 (IntKind.wrap .i64 (i15 - (1 : Int) : Int)) l18 i19) := (T104o2.join [1, 1, 1, 1, 1, 1] _).trans (by kernel_rfl)
theorem L_slices_symMergeCmpFunc_api_Val_o2_4_eq (i31 : Int) (i32 : Int) (l33 : List PV) (i34 : Int) : L_slices_symMergeCmpFunc_api_Val_o2_4 i31 i32 l33 i34 =
  (bif (decide (i32 < (IntKind.wrap .i64 (i31 - (1 : Int) : Int)))) then (bif ((true && (decide ((0 : Int) ≤ (IntKind.wrap .i64 (i32 + (1 : Int) : Int))))) && (decide ((IntKind.wrap .i64 (i32 + (1 : Int) : Int)) < (((List.length l33) : Nat) : Int)))) then (((l33)[(Int.toNat (IntKind.wrap .i64 (i32 + (1 : Int) : Int)))]?).bind (fun v60 => (c_s3 v60 (fun v61 => (bif ((true && (decide ((0 : Int) ≤ i32))) && (decide (i32 < (((List.length l33) : Nat) : Int)))) then (((l33)[(Int.toNat i32)]?).bind (fun v62 => (c_s3 v62 (fun v63 => (bif ((true && (decide ((0 : Int) ≤ i32))) && (decide (i32 < (((List.length l33) : Nat) : Int)))) then (((l33)[(Int.toNat i32)]?).bind (fun v64 => (bif ((true && (decide ((0 : Int) ≤ (IntKind.wrap .i64 (i32 + (1 : Int) : Int))))) && (decide ((IntKind.wrap .i64 (i32 + (1 : Int) : Int)) < (((List.length (List.set l33 (Int.toNat i32) (PV.slice 3 v61))) : Nat) : Int)))) then ((((List.set l33 (Int.toNat i32) (PV.slice 3 v61)))[(Int.toNat (IntKind.wrap .i64 (i32 + (1 : Int) : Int)))]?).bind (fun v65 => (L_slices_symMergeCmpFunc_api_Val_o2_4 i31 (IntKind.wrap .i64 (i32 + (1 : Int) : Int)) (List.set (List.set l33 (Int.toNat i32) (PV.slice 3 v61)) (Int.toNat (IntKind.wrap .i64 (i32 + (1 : Int) : Int))) (PV.slice 3 v63)) i34))) else none))) else none))))) else none))))) else none) else (some ((AV.pv (PV.tup [])), [(Ob.fix 0 0 l33), (Ob.var false 0 (AV.pv (PV.int .i64 i34)))]))) := (T104o2.loop [0, 1, 0, 1, 1, 1, 0, 1, 0] 2 _ rfl).trans (by kernel_rfl)
theorem L_slices_symMergeCmpFunc_api_Val_o2_5_eq (i46 : Int) (i47 : Int) (l48 : List PV) (i49 : Int) : L_slices_symMergeCmpFunc_api_Val_o2_5 i46 i47 l48 i49 =
  (bif (decide (GT.gt i47 i46)) then (bif ((true && (decide ((0 : Int) ≤ (IntKind.wrap .i64 (i47 - (1 : Int) : Int))))) && (decide ((IntKind.wrap .i64 (i47 - (1 : Int) : Int)) < (((List.length l48) : Nat) : Int)))) then (((l48)[(Int.toNat (IntKind.wrap .i64 (i47 - (1 : Int) : Int)))]?).bind (fun v66 => (c_s3 v66 (fun v67 => (bif ((true && (decide ((0 : Int) ≤ i47))) && (decide (i47 < (((List.length l48) : Nat) : Int)))) then (((l48)[(Int.toNat i47)]?).bind (fun v68 => (c_s3 v68 (fun v69 => (bif ((true && (decide ((0 : Int) ≤ i47))) && (decide (i47 < (((List.length l48) : Nat) : Int)))) then (((l48)[(Int.toNat i47)]?).bind (fun v70 => (bif ((true && (decide ((0 : Int) ≤ (IntKind.wrap .i64 (i47 - (1 : Int) : Int))))) && (decide ((IntKind.wrap .i64 (i47 - (1 : Int) : Int)) < (((List.length (List.set l48 (Int.toNat i47) (PV.slice 3 v67))) : Nat) : Int)))) then ((((List.set l48 (Int.toNat i47) (PV.slice 3 v67)))[(Int.toNat (IntKind.wrap .i64 (i47 - (1 : Int) : Int)))]?).bind (fun v71 => (L_slices_symMergeCmpFunc_api_Val_o2_5 i46 (IntKind.wrap .i64 (i47 - (1 : Int) : Int)) (List.set (List.set l48 (Int.toNat i47) (PV.slice 3 v67)) (Int.toNat (IntKind.wrap .i64 (i47 - (1 : Int) : Int))) (PV.slice 3 v69)) i49))) else none))) else none))))) else none))))) else none) else (some ((AV.pv (PV.tup [])), [(Ob.fix 0 0 l48), (Ob.var false 0 (AV.pv (PV.int .i64 i49)))]))) := (T104o2.loop [1, 0, 1, 0, 1, 1, 1, 0, 1, 0] 2 _ rfl).trans (by kernel_rfl)
theorem L_slices_symMergeCmpFunc_api_Val_o2_6_eq (i50 : Int) (i51 : Int) (i52 : Int) (i53 : Int) (i54 : Int) (i55 : Int) (i56 : Int) (i57 : Int) (l58 : List PV) (i59 : Int) : L_slices_symMergeCmpFunc_api_Val_o2_6 i50 i51 i52 i53 i54 i55 i56 i57 l58 i59 =
  (bif (decide (i55 < i56)) then (bif ((true && (decide ((0 : Int) ≤ (IntKind.wrap .i64 (i57 - (IntKind.wrap .i64 (Int.fdiv (IntKind.wrap .u64 (IntKind.wrap .i64 (i55 + i56 : Int))) (2 : Int))) : Int))))) && (decide ((IntKind.wrap .i64 (i57 - (IntKind.wrap .i64 (Int.fdiv (IntKind.wrap .u64 (IntKind.wrap .i64 (i55 + i56 : Int))) (2 : Int))) : Int)) < (((List.length l58) : Nat) : Int)))) then (((l58)[(Int.toNat (IntKind.wrap .i64 (i57 - (IntKind.wrap .i64 (Int.fdiv (IntKind.wrap .u64 (IntKind.wrap .i64 (i55 + i56 : Int))) (2 : Int))) : Int)))]?).bind (fun v72 => (c_s3 v72 (fun v73 => (bif ((true && (decide ((0 : Int) ≤ (IntKind.wrap .i64 (Int.fdiv (IntKind.wrap .u64 (IntKind.wrap .i64 (i55 + i56 : Int))) (2 : Int)))))) && (decide ((IntKind.wrap .i64 (Int.fdiv (IntKind.wrap .u64 (IntKind.wrap .i64 (i55 + i56 : Int))) (2 : Int))) < (((List.length l58) : Nat) : Int)))) then (((l58)[(Int.toNat (IntKind.wrap .i64 (Int.fdiv (IntKind.wrap .u64 (IntKind.wrap .i64 (i55 + i56 : Int))) (2 : Int))))]?).bind (fun v74 => (c_s3 v74 (fun v75 => (((W n_bag_Sort_2 false [(AV.pv (PV.slice 3 v73)), (AV.pv (PV.slice 3 v75)), (AV.own 0 0)] [(Ob.var false 0 (AV.pv (PV.int .i64 i59)))])).bind (fun v79 => (k_5b106d v79 (fun v80 v81 => (c_i64 v80 (fun v82 => (bif (!(decide (v82 < (0 : Int)))) then (L_slices_symMergeCmpFunc_api_Val_o2_6 i50 i51 i52 i53 i54 (IntKind.wrap .i64 ((IntKind.wrap .i64 (Int.fdiv (IntKind.wrap .u64 (IntKind.wrap .i64 (i55 + i56 : Int))) (2 : Int))) + (1 : Int) : Int)) i56 i57 l58 v81) else (L_slices_symMergeCmpFunc_api_Val_o2_6 i50 i51 i52 i53 i54 i55 (IntKind.wrap .i64 (Int.fdiv (IntKind.wrap .u64 (IntKind.wrap .i64 (i55 + i56 : Int))) (2 : Int))) i57 l58 v81)))))))))))) else none))))) else none) else (bif (decide (i55 < i51)) then (J_slices_symMergeCmpFunc_api_Val_o2_7 i50 i51 i52 i53 i55 (IntKind.wrap .i64 (i54 - i55 : Int)) (decide (i51 < (IntKind.wrap .i64 (i54 - i55 : Int)))) l58 i59) else (J_slices_symMergeCmpFunc_api_Val_o2_7 i50 i51 i52 i53 i55 (IntKind.wrap .i64 (i54 - i55 : Int)) false l58 i59))) := (T104o2.loop [1, 1, 1, 1, 1, 1, 1, 0, 0] 2 _ rfl).trans (by kernel_rfl)
theorem J_slices_symMergeCmpFunc_api_Val_o2_7_eq (i83 : Int) (i84 : Int) (i85 : Int) (i86 : Int) (i87 : Int) (i88 : Int) (b89 : Bool) (l90 : List PV) (i91 : Int) : J_slices_symMergeCmpFunc_api_Val_o2_7 i83 i84 i85 i86 i87 i88 b89 l90 i91 =
  (bif b89 then (((W n_slices_rotateCmpFunc_api_Val false [(AV.fx 0 0), (AV.pv (PV.int .i64 i87)), (AV.pv (PV.int .i64 i84)), (AV.pv (PV.int .i64 i88)), (AV.fnv n_bag_Sort_2 [] [(AV.own 1 0)])] [(Ob.fix 0 0 l90), (Ob.var false 0 (AV.pv (PV.int .i64 i91)))])).bind (fun v97 => (k_c4d914 v97 (fun v98 v99 v100 => (J_slices_symMergeCmpFunc_api_Val_o2_8 i83 i85 i86 i87 i88 v99 v100))))) else (J_slices_symMergeCmpFunc_api_Val_o2_8 i83 i85 i86 i87 i88 l90 i91)) := (T104o2.join [1, 1, 1, 1, 1, 1, 1, 1, 1, 0, 1] _).trans (by kernel_rfl)
theorem J_slices_symMergeCmpFunc_api_Val_o2_8_eq (i101 : Int) (i102 : Int) (i103 : Int) (i104 : Int) (i105 : Int) (l106 : List PV) (i107 : Int) : J_slices_symMergeCmpFunc_api_Val_o2_8 i101 i102 i103 i104 i105 l106 i107 =
  (bif (decide (i101 < i104)) then (J_slices_symMergeCmpFunc_api_Val_o2_9 i101 i102 i103 i104 i105 (decide (i104 < i103)) l106 i107) else (J_slices_symMergeCmpFunc_api_Val_o2_9 i101 i102 i103 i104 i105 false l106 i107)) := (T104o2.join [1, 1, 1, 1, 1, 1, 1, 1, 1, 1] _).trans (by kernel_rfl)
theorem J_slices_symMergeCmpFunc_api_Val_o2_9_eq (i108 : Int) (i109 : Int) (i110 : Int) (i111 : Int) (i112 : Int) (b113 : Bool) (l114 : List PV) (i115 : Int) : J_slices_symMergeCmpFunc_api_Val_o2_9 i108 i109 i110 i111 i112 b113 l114 i115 =
  (bif b113 then (((W n_slices_symMergeCmpFunc_api_Val false [(AV.fx 0 0), (AV.pv (PV.int .i64 i108)), (AV.pv (PV.int .i64 i111)), (AV.pv (PV.int .i64 i110)), (AV.fnv n_bag_Sort_2 [] [(AV.own 1 0)])] [(Ob.fix 0 0 l114), (Ob.var false 0 (AV.pv (PV.int .i64 i115)))])).bind (fun v121 => (k_c4d914 v121 (fun v122 v123 v124 => (J_slices_symMergeCmpFunc_api_Val_o2_10 i109 i110 i112 v123 v124))))) else (J_slices_symMergeCmpFunc_api_Val_o2_10 i109 i110 i112 l114 i115)) := (T104o2.join [1, 1, 1, 1, 1, 1, 1, 1, 1, 1, 0, 1] _).trans (by kernel_rfl)
theorem J_slices_symMergeCmpFunc_api_Val_o2_10_eq (i125 : Int) (i126 : Int) (i127 : Int) (l128 : List PV) (i129 : Int) : J_slices_symMergeCmpFunc_api_Val_o2_10 i125 i126 i127 l128 i129 =
  (bif (decide (i126 < i127)) then (J_slices_symMergeCmpFunc_api_Val_o2_11 i125 i126 i127 (decide (i127 < i125)) l128 i129) else (J_slices_symMergeCmpFunc_api_Val_o2_11 i125 i126 i127 false l128 i129)) := (T104o2.join [1, 1, 1, 1, 1, 1, 1, 1, 1, 1, 1] _).trans (by kernel_rfl)
theorem J_slices_symMergeCmpFunc_api_Val_o2_11_eq (i130 : Int) (i131 : Int) (i132 : Int) (b133 : Bool) (l134 : List PV) (i135 : Int) : J_slices_symMergeCmpFunc_api_Val_o2_11 i130 i131 i132 b133 l134 i135 =
  (bif b133 then (((W n_slices_symMergeCmpFunc_api_Val false [(AV.fx 0 0), (AV.pv (PV.int .i64 i131)), (AV.pv (PV.int .i64 i132)), (AV.pv (PV.int .i64 i130)), (AV.fnv n_bag_Sort_2 [] [(AV.own 1 0)])] [(Ob.fix 0 0 l134), (Ob.var false 0 (AV.pv (PV.int .i64 i135)))])).bind (fun v141 => (k_c4d914 v141 (fun v142 v143 v144 => (some ((AV.pv (PV.tup [])), [(Ob.fix 0 0 v143), (Ob.var false 0 (AV.pv (PV.int .i64 v144)))])))))) else (some ((AV.pv (PV.tup [])), [(Ob.fix 0 0 l134), (Ob.var false 0 (AV.pv (PV.int .i64 i135)))]))) := (T104o2.join [1, 1, 1, 1, 1, 1, 1, 1, 1, 1, 1, 1] _).trans (by kernel_rfl)
theorem o_slices_symMergeCmpFunc_api_Val_o2_1 (i0 : Int) (i1 : Int) (i2 : Int) (l3 : List PV) (i4 : Int) : W n_slices_symMergeCmpFunc_api_Val false [(AV.fx 0 0), (AV.pv (PV.int .i64 i0)), (AV.pv (PV.int .i64 i1)), (AV.pv (PV.int .i64 i2)), (AV.fnv n_bag_Sort_2 [] [(AV.own 1 0)])] [(Ob.fix 0 0 l3), (Ob.var false 0 (AV.pv (PV.int .i64 i4)))] =
  (bif ((IntKind.wrap .i64 (i1 - i0 : Int)) == (1 : Int)) then (L_slices_symMergeCmpFunc_api_Val_o2_1 i0 i1 i2 l3 i4) else (bif ((IntKind.wrap .i64 (i2 - i1 : Int)) == (1 : Int)) then (L_slices_symMergeCmpFunc_api_Val_o2_2 i1 i0 i1 l3 i4) else (bif (decide (GT.gt i1 (IntKind.wrap .i64 (Int.fdiv (IntKind.wrap .u64 (IntKind.wrap .i64 (i0 + i2 : Int))) (2 : Int))))) then (J_slices_symMergeCmpFunc_api_Val_o2_3 i0 i1 i2 (IntKind.wrap .i64 (Int.fdiv (IntKind.wrap .u64 (IntKind.wrap .i64 (i0 + i2 : Int))) (2 : Int))) (IntKind.wrap .i64 ((IntKind.wrap .i64 (Int.fdiv (IntKind.wrap .u64 (IntKind.wrap .i64 (i0 + i2 : Int))) (2 : Int))) + i1 : Int)) (IntKind.wrap .i64 ((IntKind.wrap .i64 ((IntKind.wrap .i64 (Int.fdiv (IntKind.wrap .u64 (IntKind.wrap .i64 (i0 + i2 : Int))) (2 : Int))) + i1 : Int)) - i2 : Int)) (IntKind.wrap .i64 (Int.fdiv (IntKind.wrap .u64 (IntKind.wrap .i64 (i0 + i2 : Int))) (2 : Int))) l3 i4) else (J_slices_symMergeCmpFunc_api_Val_o2_3 i0 i1 i2 (IntKind.wrap .i64 (Int.fdiv (IntKind.wrap .u64 (IntKind.wrap .i64 (i0 + i2 : Int))) (2 : Int))) (IntKind.wrap .i64 ((IntKind.wrap .i64 (Int.fdiv (IntKind.wrap .u64 (IntKind.wrap .i64 (i0 + i2 : Int))) (2 : Int))) + i1 : Int)) i0 i1 l3 i4)))) := goO (by kernel_rfl) (by kernel_rfl) T104o2 rfl (by kernel_rfl)
noncomputable def jF112 : Jn PV := (Classical.choose (exT fi112 (fin cfg fi112))).1
noncomputable def lF112 : Ln PV := (Classical.choose (exT fi112 (fin cfg fi112))).2
theorem T112 : Tied cfg W fi112 (fin cfg fi112) jF112 lF112 := Classical.choose_spec (exT fi112 (fin cfg fi112))
theorem e_cmp_isNaN_int (a0 : Int) : wc W n_cmp_isNaN_int [(PV.int .i64 a0)] =
  (some (PV.bool (a0 != a0))) := go (by kernel_rfl) (by kernel_rfl) T112 (by kernel_rfl)
noncomputable def jF113 : Jn PV := (Classical.choose (exT fi113 (fin cfg fi113))).1
noncomputable def lF113 : Ln PV := (Classical.choose (exT fi113 (fin cfg fi113))).2
theorem T113 : Tied cfg W fi113 (fin cfg fi113) jF113 lF113 := Classical.choose_spec (exT fi113 (fin cfg fi113))
noncomputable def L_slices_rotateCmpFunc_api_Val_1 (l1 : List PV) (i2 : Int) (p3 : PV) (i4 : Int) (i5 : Int) : Option PV := lF113 [0, 0, 1, 1] 0 (St.mk [(0, (AV.pv (PV.slice 0 l1))), (2, (AV.pv (PV.int .i64 i2))), (4, (AV.pv p3)), (10, (AV.pv (PV.int .i64 i4))), (11, (AV.pv (PV.int .i64 i5)))] [])
theorem L_slices_rotateCmpFunc_api_Val_1_eq (l1 : List PV) (i2 : Int) (p3 : PV) (i4 : Int) (i5 : Int) : L_slices_rotateCmpFunc_api_Val_1 l1 i2 p3 i4 i5 =
  (bif (i4 != i5) then (bif (decide (GT.gt i4 i5)) then (((wc W n_slices_swapRangeCmpFunc_api_Val [(PV.slice 0 l1), (PV.int .i64 (IntKind.wrap .i64 (i2 - i4 : Int))), (PV.int .i64 i2), (PV.int .i64 i5), p3])).bind (fun v6 => (L_slices_rotateCmpFunc_api_Val_1 l1 i2 p3 (IntKind.wrap .i64 (i4 - i5 : Int)) i5))) else (((wc W n_slices_swapRangeCmpFunc_api_Val [(PV.slice 0 l1), (PV.int .i64 (IntKind.wrap .i64 (i2 - i4 : Int))), (PV.int .i64 (IntKind.wrap .i64 ((IntKind.wrap .i64 (i2 + i5 : Int)) - i4 : Int))), (PV.int .i64 i4), p3])).bind (fun v7 => (L_slices_rotateCmpFunc_api_Val_1 l1 i2 p3 i4 (IntKind.wrap .i64 (i5 - i4 : Int)))))) else (((wc W n_slices_swapRangeCmpFunc_api_Val [(PV.slice 0 l1), (PV.int .i64 (IntKind.wrap .i64 (i2 - i4 : Int))), (PV.int .i64 i2), (PV.int .i64 i4), p3])).bind (fun v8 => (some (PV.tup []))))) := (T113.loop [1, 1, 0, 0] 0 _ rfl).trans (by kernel_rfl)
theorem e_slices_rotateCmpFunc_api_Val (a0 : List PV) (a1 : Int) (a2 : Int) (a3 : Int) (a4 : PV) : wc W n_slices_rotateCmpFunc_api_Val [(PV.slice 0 a0), (PV.int .i64 a1), (PV.int .i64 a2), (PV.int .i64 a3), a4] =
  (L_slices_rotateCmpFunc_api_Val_1 a0 a2 a4 (IntKind.wrap .i64 (a2 - a1 : Int)) (IntKind.wrap .i64 (a3 - a2 : Int))) := go (by kernel_rfl) (by kernel_rfl) T113 (by kernel_rfl)
noncomputable def jF113o2 : Jn (AV × List Ob) := (Classical.choose (exT fi113 (finO cfg fi113 false 2))).1
noncomputable def lF113o2 : Ln (AV × List Ob) := (Classical.choose (exT fi113 (finO cfg fi113 false 2))).2
theorem T113o2 : Tied cfg W fi113 (finO cfg fi113 false 2) jF113o2 lF113o2 := Classical.choose_spec (exT fi113 (finO cfg fi113 false 2))
noncomputable def L_slices_rotateCmpFunc_api_Val_o2_1 (i1 : Int) (i2 : Int) (i3 : Int) (l4 : List PV) (i5 : Int) : Option (AV × List Ob) := lF113o2 [0, 0, 1, 1] 2 (St.mk [(0, (AV.fx 0 0)), (2, (AV.pv (PV.int .i64 i1))), (4, (AV.fnv n_bag_Sort_2 [] [(AV.own 1 0)])), (10, (AV.pv (PV.int .i64 i2))), (11, (AV.pv (PV.int .i64 i3)))] [(Ob.fix 0 0 l4), (Ob.var false 0 (AV.pv (PV.int .i64 i5)))])
theorem L_slices_rotateCmpFunc_api_Val_o2_1_eq (i1 : Int) (i2 : Int) (i3 : Int) (l4 : List PV) (i5 : Int) : L_slices_rotateCmpFunc_api_Val_o2_1 i1 i2 i3 l4 i5 =
  (bif (i2 != i3) then (bif (decide (GT.gt i2 i3)) then (((W n_slices_swapRangeCmpFunc_api_Val false [(AV.fx 0 0), (AV.pv (PV.int .i64 (IntKind.wrap .i64 (i1 - i2 : Int)))), (AV.pv (PV.int .i64 i1)), (AV.pv (PV.int .i64 i3)), (AV.fnv n_bag_Sort_2 [] [(AV.own 1 0)])] [(Ob.fix 0 0 l4), (Ob.var false 0 (AV.pv (PV.int .i64 i5)))])).bind (fun v11 => (k_c4d914 v11 (fun v12 v13 v14 => (L_slices_rotateCmpFunc_api_Val_o2_1 i1 (IntKind.wrap .i64 (i2 - i3 : Int)) i3 v13 v14))))) else (((W n_slices_swapRangeCmpFunc_api_Val false [(AV.fx 0 0), (AV.pv (PV.int .i64 (IntKind.wrap .i64 (i1 - i2 : Int)))), (AV.pv (PV.int .i64 (IntKind.wrap .i64 ((IntKind.wrap .i64 (i1 + i3 : Int)) - i2 : Int)))), (AV.pv (PV.int .i64 i2)), (AV.fnv n_bag_Sort_2 [] [(AV.own 1 0)])] [(Ob.fix 0 0 l4), (Ob.var false 0 (AV.pv (PV.int .i64 i5)))])).bind (fun v20 => (k_c4d914 v20 (fun v21 v22 v23 => (L_slices_rotateCmpFunc_api_Val_o2_1 i1 i2 (IntKind.wrap .i64 (i3 - i2 : Int)) v22 v23)))))) else (((W n_slices_swapRangeCmpFunc_api_Val false [(AV.fx 0 0), (AV.pv (PV.int .i64 (IntKind.wrap .i64 (i1 - i2 : Int)))), (AV.pv (PV.int .i64 i1)), (AV.pv (PV.int .i64 i2)), (AV.fnv n_bag_Sort_2 [] [(AV.own 1 0)])] [(Ob.fix 0 0 l4), (Ob.var false 0 (AV.pv (PV.int .i64 i5)))])).bind (fun v29 => (k_c4d914 v29 (fun v30 v31 v32 => (some ((AV.pv (PV.tup [])), [(Ob.fix 0 0 v31), (Ob.var false 0 (AV.pv (PV.int .i64 v32)))]))))))) := (T113o2.loop [1, 1, 0, 0] 2 _ rfl).trans (by kernel_rfl)
theorem o_slices_rotateCmpFunc_api_Val_o2_1 (i0 : Int) (i1 : Int) (i2 : Int) (l3 : List PV) (i4 : Int) : W n_slices_rotateCmpFunc_api_Val false [(AV.fx 0 0), (AV.pv (PV.int .i64 i0)), (AV.pv (PV.int .i64 i1)), (AV.pv (PV.int .i64 i2)), (AV.fnv n_bag_Sort_2 [] [(AV.own 1 0)])] [(Ob.fix 0 0 l3), (Ob.var false 0 (AV.pv (PV.int .i64 i4)))] =
  (L_slices_rotateCmpFunc_api_Val_o2_1 i1 (IntKind.wrap .i64 (i1 - i0 : Int)) (IntKind.wrap .i64 (i2 - i1 : Int)) l3 i4) := goO (by kernel_rfl) (by kernel_rfl) T113o2 rfl (by kernel_rfl)
noncomputable def jF119 : Jn PV := (Classical.choose (exT fi119 (fin cfg fi119))).1
noncomputable def lF119 : Ln PV := (Classical.choose (exT fi119 (fin cfg fi119))).2
theorem T119 : Tied cfg W fi119 (fin cfg fi119) jF119 lF119 := Classical.choose_spec (exT fi119 (fin cfg fi119))
noncomputable def L_slices_swapRangeCmpFunc_api_Val_1 (l1 : List PV) (i2 : Int) (i3 : Int) (i4 : Int) (i5 : Int) : Option PV := lF119 [0, 1] 0 (St.mk [(0, (AV.pv (PV.slice 0 l1))), (1, (AV.pv (PV.int .i64 i2))), (2, (AV.pv (PV.int .i64 i3))), (3, (AV.pv (PV.int .i64 i4))), (10, (AV.pv (PV.int .i64 i5)))] [])
theorem L_slices_swapRangeCmpFunc_api_Val_1_eq (l1 : List PV) (i2 : Int) (i3 : Int) (i4 : Int) (i5 : Int) : L_slices_swapRangeCmpFunc_api_Val_1 l1 i2 i3 i4 i5 =
  (bif (decide (i5 < i4)) then (bif (decide ((0 : Int) ≤ (IntKind.wrap .i64 (i3 + i5 : Int)))) then (((l1)[(Int.toNat (IntKind.wrap .i64 (i3 + i5 : Int)))]?).bind (fun v6 => (c_s3 v6 (fun v7 => (bif (decide ((0 : Int) ≤ (IntKind.wrap .i64 (i2 + i5 : Int)))) then (((l1)[(Int.toNat (IntKind.wrap .i64 (i2 + i5 : Int)))]?).bind (fun v8 => (c_s3 v8 (fun v9 => (bif (decide ((0 : Int) ≤ (IntKind.wrap .i64 (i2 + i5 : Int)))) then (((l1)[(Int.toNat (IntKind.wrap .i64 (i2 + i5 : Int)))]?).bind (fun v10 => none)) else none))))) else none))))) else none) else (some (PV.tup []))) := (T119.loop [1, 0] 0 _ rfl).trans (by kernel_rfl)
theorem e_slices_swapRangeCmpFunc_api_Val (a0 : List PV) (a1 : Int) (a2 : Int) (a3 : Int) (a4 : PV) : wc W n_slices_swapRangeCmpFunc_api_Val [(PV.slice 0 a0), (PV.int .i64 a1), (PV.int .i64 a2), (PV.int .i64 a3), a4] =
  (L_slices_swapRangeCmpFunc_api_Val_1 a0 a1 a2 a3 (0 : Int)) := go (by kernel_rfl) (by kernel_rfl) T119 (by kernel_rfl)
noncomputable def jF119o2 : Jn (AV × List Ob) := (Classical.choose (exT fi119 (finO cfg fi119 false 2))).1
noncomputable def lF119o2 : Ln (AV × List Ob) := (Classical.choose (exT fi119 (finO cfg fi119 false 2))).2
theorem T119o2 : Tied cfg W fi119 (finO cfg fi119 false 2) jF119o2 lF119o2 := Classical.choose_spec (exT fi119 (finO cfg fi119 false 2))
noncomputable def L_slices_swapRangeCmpFunc_api_Val_o2_1 (i1 : Int) (i2 : Int) (i3 : Int) (i4 : Int) (l5 : List PV) (i6 : Int) : Option (AV × List Ob) := lF119o2 [0, 1] 2 (St.mk [(0, (AV.fx 0 0)), (1, (AV.pv (PV.int .i64 i1))), (2, (AV.pv (PV.int .i64 i2))), (3, (AV.pv (PV.int .i64 i3))), (10, (AV.pv (PV.int .i64 i4)))] [(Ob.fix 0 0 l5), (Ob.var false 0 (AV.pv (PV.int .i64 i6)))])
theorem L_slices_swapRangeCmpFunc_api_Val_o2_1_eq (i1 : Int) (i2 : Int) (i3 : Int) (i4 : Int) (l5 : List PV) (i6 : Int) : L_slices_swapRangeCmpFunc_api_Val_o2_1 i1 i2 i3 i4 l5 i6 =
  (bif (decide (i4 < i3)) then (bif ((true && (decide ((0 : Int) ≤ (IntKind.wrap .i64 (i2 + i4 : Int))))) && (decide ((IntKind.wrap .i64 (i2 + i4 : Int)) < (((List.length l5) : Nat) : Int)))) then (((l5)[(Int.toNat (IntKind.wrap .i64 (i2 + i4 : Int)))]?).bind (fun v7 => (c_s3 v7 (fun v8 => (bif ((true && (decide ((0 : Int) ≤ (IntKind.wrap .i64 (i1 + i4 : Int))))) && (decide ((IntKind.wrap .i64 (i1 + i4 : Int)) < (((List.length l5) : Nat) : Int)))) then (((l5)[(Int.toNat (IntKind.wrap .i64 (i1 + i4 : Int)))]?).bind (fun v9 => (c_s3 v9 (fun v10 => (bif ((true && (decide ((0 : Int) ≤ (IntKind.wrap .i64 (i1 + i4 : Int))))) && (decide ((IntKind.wrap .i64 (i1 + i4 : Int)) < (((List.length l5) : Nat) : Int)))) then (((l5)[(Int.toNat (IntKind.wrap .i64 (i1 + i4 : Int)))]?).bind (fun v11 => (bif ((true && (decide ((0 : Int) ≤ (IntKind.wrap .i64 (i2 + i4 : Int))))) && (decide ((IntKind.wrap .i64 (i2 + i4 : Int)) < (((List.length (List.set l5 (Int.toNat (IntKind.wrap .i64 (i1 + i4 : Int))) (PV.slice 3 v8))) : Nat) : Int)))) then ((((List.set l5 (Int.toNat (IntKind.wrap .i64 (i1 + i4 : Int))) (PV.slice 3 v8)))[(Int.toNat (IntKind.wrap .i64 (i2 + i4 : Int)))]?).bind (fun v12 => (L_slices_swapRangeCmpFunc_api_Val_o2_1 i1 i2 i3 (IntKind.wrap .i64 (i4 + (1 : Int) : Int)) (List.set (List.set l5 (Int.toNat (IntKind.wrap .i64 (i1 + i4 : Int))) (PV.slice 3 v8)) (Int.toNat (IntKind.wrap .i64 (i2 + i4 : Int))) (PV.slice 3 v10)) i6))) else none))) else none))))) else none))))) else none) else (some ((AV.pv (PV.tup [])), [(Ob.fix 0 0 l5), (Ob.var false 0 (AV.pv (PV.int .i64 i6)))]))) := (T119o2.loop [1, 0] 2 _ rfl).trans (by kernel_rfl)
theorem o_slices_swapRangeCmpFunc_api_Val_o2_1 (i0 : Int) (i1 : Int) (i2 : Int) (l3 : List PV) (i4 : Int) : W n_slices_swapRangeCmpFunc_api_Val false [(AV.fx 0 0), (AV.pv (PV.int .i64 i0)), (AV.pv (PV.int .i64 i1)), (AV.pv (PV.int .i64 i2)), (AV.fnv n_bag_Sort_2 [] [(AV.own 1 0)])] [(Ob.fix 0 0 l3), (Ob.var false 0 (AV.pv (PV.int .i64 i4)))] =
  (L_slices_swapRangeCmpFunc_api_Val_o2_1 i0 i1 i2 (0 : Int) l3 i4) := goO (by kernel_rfl) (by kernel_rfl) T119o2 rfl (by kernel_rfl)
end Go.Cf

namespace Go.Cf
open Go Go.Ab
set_option linter.unusedVariables false
set_option linter.unusedSimpArgs false
structure Val where
  K : Int
  N : Int
  deriving DecidableEq
def Val.pv (v : Val) : PV := .agg [.int .i64 v.K, .int .i64 v.N]
@[simp] theorem Val.fold (v : Val) : PV.agg [.int .i64 v.K, .int .i64 v.N] = v.pv := rfl
@[simp] theorem Val.c_mk (v : Val) {R : Type} (f : Int → Int → Option R) : c_g_i64_i64 v.pv f = f v.K v.N := rfl
structure Def where
  Cols : Int
  Rows : Int
  deriving DecidableEq
def Def.pv (d : Def) : PV := .agg [.int .i64 d.Cols, .int .i64 d.Rows]
@[simp] theorem Def.fold (v : Def) : PV.agg [.int .i64 v.Cols, .int .i64 v.Rows] = v.pv := rfl
@[simp] theorem Def.c_mk (v : Def) {R : Type} (f : Int → Int → Option R) : c_g_i64_i64 v.pv f = f v.Cols v.Rows := rfl
@[simp] theorem Def.load0 (v : Def) : PV.load 3 v.pv 0 0 = some (.int .i64 v.Cols) := rfl
@[simp] theorem Def.load1 (v : Def) : PV.load 3 v.pv 1 0 = some (.int .i64 v.Rows) := rfl
def rowp (r : List Val) : PV := .slice 3 (r.map Val.pv)
def tabp (t : List (List Val)) : PV := .slice 0 (t.map rowp)
@[simp] theorem c_rowp (r : List Val) {R : Type} (f : List PV → Option R) : c_s3 (rowp r) f = f (r.map Val.pv) := rfl
@[simp] theorem c_tabp (t : List (List Val)) {R : Type} (f : List PV → Option R) : c_s0 (tabp t) f = f (t.map rowp) := rfl
@[simp] theorem rowp_fold (r : List Val) : PV.slice 3 (r.map Val.pv) = rowp r := rfl
@[simp] theorem tabp_fold (t : List (List Val)) : PV.slice 0 (t.map rowp) = tabp t := rfl
def intp (n : Int) : PV := .int .i64 n
@[simp] theorem c_intp (n : Int) {R : Type} (f : Int → Option R) : c_i64 (intp n) f = f n := rfl
def intsp (l : List Int) : PV := .slice 0 (l.map intp)
@[simp] theorem intsp_fold (l : List Int) : PV.slice 0 (l.map intp) = intsp l := rfl
@[simp] theorem c_intsp (l : List Int) {R : Type} (f : List PV → Option R) : c_s0 (intsp l) f = f (l.map intp) := rfl
def idxI {α : Type} (l : List α) (f : α → Bool) : Int := match l.findIdx? f with | some i => (i : Int) | none => -1
theorem idxI_any {α : Type} (l : List α) (f : α → Bool) : decide (idxI l f ≥ 0) = l.any f := by
  unfold idxI
  cases h : l.findIdx? f with
  | some i =>
    have := List.findIdx?_eq_some_iff_getElem.1 h
    obtain ⟨hi, h1, _⟩ := this
    have : l.any f = true := List.any_eq_true.2 ⟨_, List.getElem_mem hi, h1⟩
    rw [this]; simp
  | none =>
    have := List.findIdx?_eq_none_iff.1 h
    have : l.any f = false := by
      rw [Bool.eq_false_iff]
      intro e
      obtain ⟨x, hx, e⟩ := List.any_eq_true.1 e
      rw [this x hx] at e; cases e
    rw [this]; rfl
theorem loop_idx {R α : Type} (L : Int → Option R) (l : List α) (f : α → Bool) (g : Int → Option R) (hs : ∀ (i : Nat) (h : i < l.length), L (i : Int) = bif f l[i] then g (i : Int) else L ((i : Int) + 1)) (he : L (l.length : Int) = g (-1)) :
    L 0 = g (idxI l f) := by
  have : ∀ k i : Nat, i + k = l.length → L (i : Int) = g (match (l.drop i).findIdx? f with | some j => ((i + j : Nat) : Int) | none => -1) := by
    intro k
    induction k with
    | zero =>
      intro i h; simp at h; subst h
      rw [he, List.drop_of_length_le (Nat.le_refl _)]; rfl
    | succ k ih =>
      intro i h
      have hi : i < l.length := by omega
      rw [hs i hi, List.drop_eq_getElem_cons hi, List.findIdx?_cons]
      cases f l[i] with
      | true => simp
      | false =>
        simp only [cond_false, Bool.false_eq_true, if_false]
        rw [show ((i : Int) + 1) = ((i + 1 : Nat) : Int) by omega, ih (i + 1) (by omega)]
        cases (List.drop (i + 1) l).findIdx? f with
        | none => rfl
        | some j =>
          simp only [Option.map_some]
          congr 1; omega
  have h0 := this l.length 0 (by omega)
  simp only [Nat.zero_add, List.drop_zero] at h0
  exact h0
theorem w_idxVal (l : List Val) (g : Nat) (fs cs : List PV) (f : Val → Bool) (hl : l.length ≤ 9223372036854775807) (hf : ∀ x ∈ l, wc W g (fs ++ [x.pv] ++ cs) = some (.bool (f x))) :
    wc W n_slices_IndexFunc_api_Val_api_Val_b1f6 [rowp l, .fn g fs cs] = some (.int .i64 (idxI l f)) := by
  unfold rowp
  rw [e_slices_IndexFunc_api_Val_api_Val_b1f6, List.length_map]
  refine loop_idx (fun i => L_slices_IndexFunc_api_Val_api_Val_b1f6_1 (l.map Val.pv) (.fn g fs cs) l.length i) l f (fun n => some (.int .i64 n)) (fun i hi => ?_) ?_
  · rw [L_slices_IndexFunc_api_Val_api_Val_b1f6_1_eq]
    simp only [lt_len hi, nat_le, cond_true, Int.toNat_natCast, List.getElem?_map, List.getElem?_eq_getElem hi, Option.map_some, Option.bind_some, Val.c_mk, asFn_mk, Val.fold]
    rw [hf _ (List.getElem_mem hi), wrap64 (by omega) (by omega)]
    simp only [Option.bind_some, c_b_mk]
  · rw [L_slices_IndexFunc_api_Val_api_Val_b1f6_1_eq]; simp
theorem w_anyVal (l : List Val) (g : Nat) (fs cs : List PV) (f : Val → Bool) (hl : l.length ≤ 9223372036854775807) (hf : ∀ x ∈ l, wc W g (fs ++ [x.pv] ++ cs) = some (.bool (f x))) :
    wc W n_slices_ContainsFunc_api_Val_api_Val_c5fc [rowp l, .fn g fs cs] = some (.bool (l.any f)) := by
  have h := e_slices_ContainsFunc_api_Val_api_Val_c5fc (l.map Val.pv) (.fn g fs cs)
  rw [rowp_fold] at h
  rw [h, w_idxVal l g fs cs f hl hf]
  simp [← idxI_any]
def mayV (v : Val) : Bool := decide (v.K = 0) || ((decide (v.K = 1) || decide (v.K = 2)) && decide (v.N = 0))
theorem w_val_May (v : Val) : wc W n_val_May [v.pv] = some (.bool (mayV v)) := by
  have h := e_val_May v.K v.N
  rw [Val.fold] at h
  rw [h]
  unfold mayV
  by_cases h0 : v.K = 0
  · rw [h0]; simp
  · by_cases h1 : v.K = 1
    · rw [h1]; simp [BEq.beq]
    · by_cases h2 : v.K = 2
      · rw [h2]; simp [BEq.beq]
      · by_cases a : v.K ≥ 0
        · rw [decide_eq_true a, decide_eq_false (show ¬ v.K < 3 by omega)]; simp [h0, h1, h2]
        · rw [decide_eq_false a]; simp [h0, h1, h2]
end Go.Cf

namespace Go.Cf
open Go Go.Ab
set_option linter.unusedVariables false
set_option linter.unusedSimpArgs false
def bagp (c : List Int) (r : List (List Val)) : PV := .agg [intsp c, tabp r]
@[simp] theorem bagp_fold (c : List Int) (r : List (List Val)) : PV.agg [intsp c, tabp r] = bagp c r := rfl
@[simp] theorem c_bagp (c : List Int) (r : List (List Val)) {R : Type} (f : List PV → List PV → Option R) : c_g_s0_s0 (bagp c r) f = f (c.map intp) (r.map rowp) := rfl
theorem any_not {α : Type} (l : List α) (f : α → Bool) : (!l.any fun x => !f x) = l.all f := by
  induction l with
  | nil => rfl
  | cons a l ih => simp only [List.any_cons, List.all_cons, Bool.not_or, Bool.not_not, ih]
def upd (f : Nat → Bool) (v : Nat) : Nat → Bool := fun k => bif k == 0 + v * 1 then true else f k
def goC : (Nat → Bool) → List Int → Option (Nat → Bool)
  | f, [] => some f
  | f, c :: r => bif (decide (0 ≤ c) && decide (c ≤ 15)) && !f c.toNat then goC (upd f c.toNat) r else none
noncomputable def M1 (l1 l2 l3 : List PV) (n i : Int) (f : Nat → Bool) : Option PV := L_bag_May_1 l1 l2 l3 n i (f 0) (f 1) (f 2) (f 3) (f 4) (f 5) (f 6) (f 7) (f 8) (f 9) (f 10) (f 11) (f 12) (f 13) (f 14) (f 15)
noncomputable def M2 (l1 l2 l3 : List PV) (n i : Int) (f : Nat → Bool) : Option PV := L_bag_May_2 l1 l2 l3 n i (f 0) (f 1) (f 2) (f 3) (f 4) (f 5) (f 6) (f 7) (f 8) (f 9) (f 10) (f 11) (f 12) (f 13) (f 14) (f 15)
theorem load16 (f : Nat → Bool) : ∀ v : Nat, v < 16 → PV.load 17 (.agg [.bool (f 0), .bool (f 1), .bool (f 2), .bool (f 3), .bool (f 4), .bool (f 5), .bool (f 6), .bool (f 7), .bool (f 8), .bool (f 9), .bool (f 10), .bool (f 11), .bool (f 12), .bool (f 13), .bool (f 14), .bool (f 15)]) (0 + v * 1) 0 = some (.bool (f v))
  | 0, _ => rfl | 1, _ => rfl | 2, _ => rfl | 3, _ => rfl | 4, _ => rfl | 5, _ => rfl | 6, _ => rfl | 7, _ => rfl
  | 8, _ => rfl | 9, _ => rfl | 10, _ => rfl | 11, _ => rfl | 12, _ => rfl | 13, _ => rfl | 14, _ => rfl | 15, _ => rfl
  | n + 16, h => by omega
theorem may1_loop (cols : List Int) (rows : List PV) (hl : cols.length ≤ 9223372036854775807) : ∀ (k i : Nat) (f : Nat → Bool), i + k = cols.length →
    M1 (cols.map intp) rows (cols.map intp) (cols.length : Int) (i : Int) f = match goC f (cols.drop i) with | some f' => M2 (cols.map intp) rows rows ((rows.length : Nat) : Int) 0 f' | none => some (.bool false)
  | 0, i, f, h => by
    unfold M1
    rw [L_bag_May_1_eq, show i = cols.length by omega]
    simp only [ge_len, cond_false, List.drop_length, goC]
    rfl
  | k + 1, i, f, h => by
    have hi : i < cols.length := by omega
    unfold M1
    rw [L_bag_May_1_eq, List.drop_eq_getElem_cons hi, goC]
    simp only [lt_len hi, nat_le, cond_true, Int.toNat_natCast, List.getElem?_map, List.getElem?_eq_getElem hi, Option.map_some, Option.bind_some, c_intp]
    by_cases h0 : cols[i] < 0
    · rw [decide_eq_true h0, decide_eq_false (show ¬ 0 ≤ cols[i] by omega)]; rfl
    rw [decide_eq_false h0, decide_eq_true (show 0 ≤ cols[i] by omega)]
    by_cases h15 : cols[i] > 15
    · rw [decide_eq_true h15, decide_eq_false (show ¬ cols[i] ≤ 15 by omega)]; rfl
    rw [decide_eq_false h15, decide_eq_true (show cols[i] ≤ 15 by omega), decide_eq_true (show cols[i] < 16 by omega)]
    simp only [cond_false, Bool.and_self, cond_true, Bool.true_and, load16 f cols[i].toNat (by omega), Option.bind_some, c_b_mk]
    cases hf : f cols[i].toNat with
    | true => rfl
    | false =>
      simp only [cond_false, Bool.not_false, cond_true, decide_eq_true (show 0 + cols[i].toNat * 1 + 1 ≤ 16 by omega), Bool.and_true]
      rw [wrap64 (by omega) (by omega)]
      exact may1_loop cols rows hl k (i + 1) (upd f cols[i].toNat) (by omega)
theorem goC_iff : ∀ (cols : List Int) (f : Nat → Bool), (goC f cols).isSome = true ↔ (∀ c ∈ cols, (0 ≤ c ∧ c ≤ 15) ∧ f c.toNat = false) ∧ cols.Nodup
  | [], f => by simp [goC]
  | c :: r, f => by
    unfold goC
    cases hb : (decide (0 ≤ c) && decide (c ≤ 15)) && !f c.toNat with
    | false =>
      simp only [cond_false, Option.isSome_none, Bool.false_eq_true, false_iff, not_and]
      intro h
      have := h c (by simp)
      rw [decide_eq_true this.1.1, decide_eq_true this.1.2, this.2] at hb
      cases hb
    | true =>
      simp only [cond_true]
      rw [goC_iff r]
      simp only [Bool.and_eq_true, decide_eq_true_eq, Bool.not_eq_true'] at hb
      obtain ⟨⟨c0, c15⟩, hf⟩ := hb
      simp only [List.nodup_cons, List.mem_cons, forall_eq_or_imp, upd, Nat.zero_add, Nat.mul_one]
      constructor
      · rintro ⟨h1, h2⟩
        refine ⟨⟨⟨⟨c0, c15⟩, hf⟩, fun x hx => ⟨(h1 x hx).1, ?_⟩⟩, ?_, h2⟩
        · have := (h1 x hx).2
          cases e : (x.toNat == c.toNat) with
          | true => rw [e] at this; cases this
          | false => rw [e] at this; exact this
        · intro hc
          have := (h1 c hc).2
          rw [beq_t rfl] at this; cases this
      · rintro ⟨⟨_, h1⟩, h2, h3⟩
        refine ⟨fun x hx => ⟨(h1 x hx).1, ?_⟩, h3⟩
        have hne : x ≠ c := fun e => h2 (e ▸ hx)
        have := (h1 x hx).1
        rw [beq_f (show x.toNat ≠ c.toNat by omega)]
        exact (h1 x hx).2
def colsB (cols : List Int) : Bool := (goC (fun _ => false) cols).isSome
theorem colsB_iff (cols : List Int) : colsB cols = true ↔ (∀ c ∈ cols, 0 ≤ c ∧ c ≤ 15) ∧ cols.Nodup := by
  unfold colsB
  rw [goC_iff]
  simp
def rowB (n : Nat) (r : List Val) : Bool := decide (r.length = n) && r.all mayV
def mayB (c : List Int) (r : List (List Val)) : Bool := colsB c && r.all (rowB c.length) && decide (r.length ≤ 5000)
theorem w_mayB1 (v : Val) : wc W n_bag_May_1 [v.pv] = some (.bool (!mayV v)) := by
  have h := e_bag_May_1 v.K v.N
  rw [Val.fold] at h
  rw [h, w_val_May]; rfl
theorem w_bag_May (c : List Int) (r : List (List Val)) (hc : c.length ≤ 9223372036854775807) (hr : r.length ≤ 9223372036854775807) (hl : ∀ x ∈ r, x.length ≤ 9223372036854775807) : wc W n_bag_May [bagp c r] = some (.bool (mayB c r)) := by
  have h := e_bag_May (c.map intp) (r.map rowp)
  rw [intsp_fold, tabp_fold, bagp_fold] at h
  have h1 := may1_loop c (r.map rowp) hc c.length 0 (fun _ => false) (by omega)
  rw [List.drop_zero] at h1
  rw [h, List.length_map]
  refine h1.trans ?_
  unfold mayB colsB
  cases hg : goC (fun _ => false) c with
  | none => rfl
  | some f =>
    simp only [Option.isSome_some, Bool.true_and, List.length_map]
    rw [loop_all (fun i => M2 (c.map intp) (r.map rowp) (r.map rowp) (r.length : Int) i f) r.length (fun i => (r[i]?).all (rowB c.length)) (some (.bool false)) (some (.bool (decide (r.length ≤ 5000)))) ?_ ?_, all_get]
    · cases r.all (rowB c.length) <;> rfl
    · intro i hi
      unfold M2
      rw [L_bag_May_2_eq]
      simp only [List.length_map, lt_len hi, nat_le, cond_true, Int.toNat_natCast, List.getElem?_map, List.getElem?_eq_getElem hi, Option.map_some, Option.bind_some, c_rowp, rowp_fold, Option.all_some, w_anyVal r[i] n_bag_May_1 [] [] (fun v => !mayV v) (hl _ (List.getElem_mem hi)) (fun x _ => w_mayB1 x), c_b_mk]
      rw [wrap64 (by omega) (by omega)]
      unfold rowB
      by_cases e : r[i].length = c.length
      · rw [bne_f (by rw [e]), decide_eq_true e, ← any_not]
        cases r[i].any fun v => !mayV v <;> rfl
      · rw [bne_t (by omega), decide_eq_false e]; rfl
    · unfold M2
      rw [L_bag_May_2_eq]
      simp only [List.length_map, ge_len, cond_false]
      congr 2
      have : ((r.length : Int) ≤ 5000) = (r.length ≤ 5000) := by apply propext; omega
      simp only [this]
theorem colsB_len {c : List Int} (h : colsB c = true) : c.length ≤ 16 := by
  obtain ⟨h1, h2⟩ := (colsB_iff c).1 h
  have hsub : c ⊆ (List.range 16).map fun n : Nat => (n : Int) := by
    intro x hx
    have := h1 x hx
    rw [List.mem_map]
    exact ⟨x.toNat, by simp; omega, by omega⟩
  have := List.Nodup.length_le_of_subset h2 hsub
  simpa using this
theorem mayB_row {c : List Int} {r : List (List Val)} (h : mayB c r = true) : c.length ≤ 16 ∧ r.length ≤ 5000 ∧ ∀ x ∈ r, x.length = c.length ∧ x.all mayV = true := by
  unfold mayB at h
  simp only [Bool.and_eq_true, decide_eq_true_eq, List.all_eq_true] at h
  refine ⟨colsB_len h.1.1, h.2, fun x hx => ?_⟩
  have := h.1.2 x hx
  unfold rowB at this
  simp only [Bool.and_eq_true, decide_eq_true_eq] at this
  exact this
def bagR (x : Option (List Int × List (List Val))) : PV := match x with | some b => .tup [bagp b.1 b.2, .bool true] | none => .tup [bagp [] [], .bool false]
end Go.Cf

namespace Go.Cf
open Go Go.Ab
set_option linter.unusedVariables false
set_option linter.unusedSimpArgs false
def badV : Val := ⟨2, 0⟩
def VOk (v : Val) : Prop := I64 v.K ∧ I64 v.N
def lookR (cols : List Int) (row : List Val) (c : Int) : Val := bif decide (idxI cols (fun x => c == x) < 0) then badV else bif decide (idxI cols (fun x => c == x) ≥ (row.length : Int)) then badV else row.getD (idxI cols (fun x => c == x)).toNat badV
theorem w_Index (l : List Int) (n : Int) (hl : l.length ≤ 9223372036854775807) : wc W n_slices_Index_int_int [intsp l, .int .i64 n] = some (.int .i64 (idxI l (fun x => n == x))) := by
  have h := e_slices_Index_int_int (l.map intp) n
  rw [intsp_fold] at h
  rw [h, List.length_map]
  refine loop_idx (fun i => L_slices_Index_int_int_1 (l.map intp) n l.length i) l (fun x => n == x) (fun n => some (.int .i64 n)) (fun i hi => ?_) ?_
  · rw [L_slices_Index_int_int_1_eq]
    simp only [lt_len hi, nat_le, cond_true, Int.toNat_natCast, List.getElem?_map, List.getElem?_eq_getElem hi, Option.map_some, Option.bind_some, c_intp]
    rw [wrap64 (by omega) (by omega)]
  · rw [L_slices_Index_int_int_1_eq]; simp
def fewB (c : List Int) (r : List (List Val)) (m : Nat) : Bool := decide (r.length ≤ m) && decide (c.length ≤ 20) && r.all fun x => decide (x.length ≤ 20)
theorem w_few (c : List Int) (r : List (List Val)) (m : Nat) (hr : r.length ≤ 9223372036854775807) : wc W n_roadbooklaw03_few [bagp c r, .int .i64 (m : Int)] = some (.bool (fewB c r m)) := by
  have h := e_roadbooklaw03_few (c.map intp) (r.map rowp) (m : Int)
  rw [intsp_fold, tabp_fold, bagp_fold] at h
  rw [h, List.length_map, List.length_map]
  unfold fewB
  by_cases h1 : r.length ≤ m
  · rw [decide_eq_true h1, decide_eq_false (show ¬ (r.length : Int) > (m : Int) by omega)]
    by_cases h2 : c.length ≤ 20
    · rw [decide_eq_true h2, decide_eq_false (show ¬ (c.length : Int) > 20 by omega)]
      simp only [cond_false, Bool.and_self, Bool.true_and, J_roadbooklaw03_few_1_eq]
      rw [loop_all (fun i => L_roadbooklaw03_few_2 (c.map intp) (r.map rowp) i) r.length (fun i => (r[i]?).all fun x => decide (x.length ≤ 20)) (some (.bool false)) (some (.bool true)) ?_ ?_, all_get]
      · cases r.all fun x => decide (x.length ≤ 20) <;> rfl
      · intro i hi
        rw [L_roadbooklaw03_few_2_eq]
        simp only [List.length_map, lt_len hi, nat_le, cond_true, Int.toNat_natCast, List.getElem?_map, List.getElem?_eq_getElem hi, Option.map_some, Option.bind_some, c_rowp, Option.all_some]
        rw [wrap64 (by omega) (by omega)]
        by_cases h3 : r[i].length ≤ 20
        · rw [decide_eq_true h3, decide_eq_false (show ¬ (r[i].length : Int) > 20 by omega)]; rfl
        · rw [decide_eq_false h3, decide_eq_true (show (r[i].length : Int) > 20 by omega)]; rfl
      · rw [L_roadbooklaw03_few_2_eq]; simp only [List.length_map, ge_len, cond_false]
    · rw [decide_eq_false h2, decide_eq_true (show (c.length : Int) > 20 by omega)]
      simp
  · rw [decide_eq_false h1, decide_eq_true (show (r.length : Int) > (m : Int) by omega)]
    simp
theorem fewB_of {c : List Int} {r : List (List Val)} {m : Nat} (h : fewB c r m = true) : r.length ≤ m ∧ c.length ≤ 20 ∧ ∀ x ∈ r, x.length ≤ 20 := by
  unfold fewB at h
  simp only [Bool.and_eq_true, decide_eq_true_eq, List.all_eq_true] at h
  exact ⟨h.1.1, h.1.2, h.2⟩
theorem loop_all2 {α : Type} [DecidableEq α] {R : Type} (L : Int → Option R) (a b : List α) (e : a.length = b.length) (r s : Option R) (hs : ∀ i : Nat, ∀ (h : i < a.length) (h' : i < b.length), L (i : Int) = bif decide (a[i] = b[i]) then L ((i : Int) + 1) else r) (he : L (a.length : Int) = s) :
    L 0 = bif decide (a = b) then s else r := by
  rw [loop_all L a.length (fun i => decide (a[i]? = b[i]?)) r s (fun i hi => ?_) he, all_eq a b e]
  have hi' : i < b.length := by omega
  rw [hs i hi hi', List.getElem?_eq_getElem hi, List.getElem?_eq_getElem hi']
  simp only [Option.some.injEq]
theorem w_Ints (a b : List Int) (ha : a.length ≤ 9223372036854775807) : wc W n_roadbookref02_Ints [intsp a, intsp b] = some (.bool (decide (a = b))) := by
  have h := e_roadbookref02_Ints (a.map intp) (b.map intp)
  rw [intsp_fold, intsp_fold] at h
  rw [h, List.length_map, List.length_map]
  by_cases e : a.length = b.length
  · rw [bne_f (by rw [e]), cond_false]
    rw [loop_all2 (fun i => L_roadbookref02_Ints_1 (a.map intp) (b.map intp) i) a b e (some (.bool false)) (some (.bool true)) ?_ ?_]
    · cases decide (a = b) <;> rfl
    · intro i hi hi'
      rw [L_roadbookref02_Ints_1_eq]
      simp only [List.length_map, lt_len hi, nat_le, cond_true, Int.toNat_natCast, List.getElem?_map, List.getElem?_eq_getElem hi, List.getElem?_eq_getElem hi', Option.map_some, Option.bind_some, c_intp]
      rw [wrap64 (by omega) (by omega)]
      by_cases h : a[i] = b[i]
      · rw [bne_f h, decide_eq_true h]; rfl
      · rw [bne_t h, decide_eq_false h]; rfl
    · rw [L_roadbookref02_Ints_1_eq]; simp only [List.length_map, ge_len, cond_false]
  · rw [bne_t (by omega), decide_eq_false (fun h => e (by rw [h]))]; rfl
theorem w_RowR (a b : List Val) (ha : a.length ≤ 9223372036854775807) : wc W n_roadbookref03_Row [rowp a, rowp b] = some (.bool (decide (a = b))) := by
  have h := e_roadbookref03_Row (a.map Val.pv) (b.map Val.pv)
  rw [rowp_fold, rowp_fold] at h
  rw [h, List.length_map, List.length_map]
  by_cases e : a.length = b.length
  · rw [bne_f (by rw [e]), cond_false]
    rw [loop_all2 (fun i => L_roadbookref03_Row_1 (a.map Val.pv) (b.map Val.pv) i) a b e (some (.bool false)) (some (.bool true)) ?_ ?_]
    · cases decide (a = b) <;> rfl
    · intro i hi hi'
      rw [L_roadbookref03_Row_1_eq]
      simp only [List.length_map, lt_len hi, nat_le, cond_true, Int.toNat_natCast, List.getElem?_map, List.getElem?_eq_getElem hi, List.getElem?_eq_getElem hi', Option.map_some, Option.bind_some, Val.c_mk]
      rw [wrap64 (by omega) (by omega)]
      have key : ∀ x y : Val, ((bif (x.K == y.K) then (bif (x.N == y.N) then (some true) else (some false)) else (some false)) : Option Bool) = some (decide (x = y)) := fun x y => by
        cases x; cases y
        simp only [Val.mk.injEq]
        rw [Bool.decide_and]
        rename_i k n k' n'
        show _ = some ((k == k') && (n == n'))
        cases k == k' <;> cases n == n' <;> rfl
      rw [key]
      simp only [Option.bind_some, c_b_mk]
      cases decide (a[i] = b[i]) <;> rfl
    · rw [L_roadbookref03_Row_1_eq]; simp only [List.length_map, ge_len, cond_false]
  · rw [bne_t (by omega), decide_eq_false (fun h => e (by rw [h]))]; rfl
theorem w_Like (c : List Int) (r : List (List Val)) (d : List Int) (s : List (List Val)) (hc : c.length ≤ 9223372036854775807) (hr : r.length ≤ 9223372036854775807) (hl : ∀ x ∈ r, x.length ≤ 9223372036854775807) :
    wc W n_roadbookref03_Like [bagp c r, bagp d s] = some (.bool (decide (c = d) && decide (r = s))) := by
  have h := e_roadbookref03_Like (c.map intp) (r.map rowp) (d.map intp) (s.map rowp)
  rw [intsp_fold, intsp_fold, tabp_fold, tabp_fold, bagp_fold, bagp_fold] at h
  rw [h, w_Ints c d hc, List.length_map, List.length_map]
  simp only [Option.bind_some, c_b_mk]
  cases decide (c = d) with
  | false => rfl
  | true =>
    simp only [Bool.not_true, cond_false, Bool.true_and]
    by_cases e : r.length = s.length
    · rw [bne_f (by rw [e]), cond_false, J_roadbookref03_Like_1_eq]
      rw [loop_all2 (fun i => L_roadbookref03_Like_2 (c.map intp) (r.map rowp) (d.map intp) (s.map rowp) i) r s e (some (.bool false)) (some (.bool true)) ?_ ?_]
      · cases decide (r = s) <;> rfl
      · intro i hi hi'
        rw [L_roadbookref03_Like_2_eq]
        simp only [List.length_map, lt_len hi, nat_le, cond_true, Int.toNat_natCast, List.getElem?_map, List.getElem?_eq_getElem hi, List.getElem?_eq_getElem hi', Option.map_some, Option.bind_some, c_rowp, rowp_fold, w_RowR _ _ (hl _ (List.getElem_mem hi)), c_b_mk]
        rw [wrap64 (by omega) (by omega)]
        cases decide (r[i] = s[i]) <;> rfl
      · rw [L_roadbookref03_Like_2_eq]; simp only [List.length_map, ge_len, cond_false]
    · rw [bne_t (by omega), decide_eq_false (fun h => e (by rw [h]))]; rfl
theorem lookR_ok (cols : List Int) {row : List Val} (h : ∀ v ∈ row, VOk v) (c : Int) : VOk (lookR cols row c) := by
  have hb : VOk badV := ⟨⟨by decide, by decide⟩, ⟨by decide, by decide⟩⟩
  unfold lookR
  cases decide (idxI cols (fun x => c == x) < 0) with
  | true => exact hb
  | false =>
    cases decide (idxI cols (fun x => c == x) ≥ (row.length : Int)) with
    | true => exact hb
    | false =>
      simp only [cond_false]
      rw [List.getD_eq_getElem?_getD]
      cases hr : row[(idxI cols (fun x => c == x)).toNat]? with
      | none => exact hb
      | some v => exact h v (List.mem_of_getElem? hr)
def ROk (r : List Val) : Prop := ∀ v ∈ r, VOk v
def inC (c : List Int) (x : Int) : Bool := decide (x ∈ c)
theorem idxI_lt {c : List Int} {x : Int} : decide (idxI c (fun y => x == y) < 0) = !inC c x := by
  have h := idxI_any c (fun y => x == y)
  have h2 : c.any (fun y => x == y) = inC c x := by
    unfold inC
    rw [Bool.eq_iff_iff, List.any_eq_true, decide_eq_true_eq]
    constructor
    · rintro ⟨y, hy, e⟩; rw [beq_iff_eq] at e; subst e; exact hy
    · intro h; exact ⟨x, h, by simp⟩
  rw [h2] at h
  rw [← h]
  by_cases hh : idxI c (fun y => x == y) < 0
  · rw [decide_eq_true hh, decide_eq_false (by omega)]; rfl
  · rw [decide_eq_false hh, decide_eq_true (by omega)]; rfl
theorem idxI_len (c : List Int) (x : Int) : idxI c (fun y => x == y) < (c.length : Int) := by
  unfold idxI
  cases h : c.findIdx? (fun y => x == y) with
  | none => simp only; omega
  | some i =>
    obtain ⟨hi, _⟩ := List.findIdx?_eq_some_iff_getElem.1 h
    simp only; omega
theorem lookR_in {c : List Int} {row : List Val} {x : Int} (h : inC c x = true) (hl : row.length = c.length) : (row[(idxI c (fun y => x == y)).toNat]? = some (lookR c row x)) ∧ 0 ≤ idxI c (fun y => x == y) := by
  have h1 : decide (idxI c (fun y => x == y) < 0) = false := by rw [idxI_lt, h]; rfl
  have h2 := of_decide_eq_false h1
  have h3 := idxI_len c x
  refine ⟨?_, by omega⟩
  unfold lookR
  rw [h1, decide_eq_false (show ¬ idxI c (fun y => x == y) ≥ (row.length : Int) by omega)]
  have hlt : (idxI c (fun y => x == y)).toNat < row.length := by omega
  simp only [cond_false, List.getElem?_eq_getElem hlt, List.getD_eq_getElem?_getD, Option.getD_some]
def atC (c cols : List Int) : List Int := cols.map fun x => idxI c (fun y => x == y)
def pickR (c cols : List Int) (row : List Val) : List Val := cols.map (lookR c row)
theorem w_awake3 : wc W n_roadbooklaw03_awake [] = some (.bool true) := by rw [W_eq]; exact wc_le (evF_evw 40) (by kernel_rfl)
theorem idxI_get {c : List Int} {x : Int} (h : inC c x = true) : c[(idxI c (fun y => x == y)).toNat]? = some x := by
  have h1 : decide (idxI c (fun y => x == y) < 0) = false := by rw [idxI_lt, h]; rfl
  have h2 := of_decide_eq_false h1
  unfold idxI at h2 ⊢
  cases hf : c.findIdx? (fun y => x == y) with
  | none => rw [hf] at h2; simp only at h2; omega
  | some i =>
    obtain ⟨hi, e, _⟩ := List.findIdx?_eq_some_iff_getElem.1 hf
    simp only [Int.toNat_natCast, List.getElem?_eq_getElem hi]
    rw [beq_iff_eq] at e
    rw [e]
theorem look_pick {c cols : List Int} {row : List Val} {y : Int} (h : inC cols y = true) : lookR cols (pickR c cols row) y = lookR c row y := by
  have h1 := (lookR_in (row := pickR c cols row) h (by unfold pickR; rw [List.length_map])).1
  have h2 := idxI_get h
  unfold pickR at h1
  rw [List.getElem?_map, h2, Option.map_some] at h1
  exact (Option.some.inj h1).symm
theorem nodup_idx {α : Type} : ∀ {l : List α}, l.Nodup → ∀ {j k : Nat} {o : α}, l[j]? = some o → l[k]? = some o → j = k
  | [], _, _, _, _, h, _ => by simp at h
  | x :: r, hn, 0, 0, o, h, hk => rfl
  | x :: r, hn, 0, k + 1, o, h, hk => by
    simp only [List.getElem?_cons_zero, Option.some.injEq] at h; subst h
    exact absurd (List.mem_of_getElem? (by simpa using hk)) (List.nodup_cons.1 hn).1
  | x :: r, hn, j + 1, 0, o, h, hk => by
    simp only [List.getElem?_cons_zero, Option.some.injEq] at hk; subst hk
    exact absurd (List.mem_of_getElem? (by simpa using h)) (List.nodup_cons.1 hn).1
  | x :: r, hn, j + 1, k + 1, o, h, hk => by
    exact congrArg (· + 1) (nodup_idx (o := o) (List.nodup_cons.1 hn).2 (by simpa using h) (by simpa using hk))
theorem place_of {is : List Nat} (hn : is.Nodup) {o j : Nat} (h : is[j]? = some o) : place is o = some j := by
  cases hp : place is o with
  | none => exact absurd (List.mem_of_getElem? h) (place_none hp)
  | some k =>
    have hk := place_some hp
    exact congrArg some (nodup_idx hn h hk).symm
theorem look_self {c : List Int} {row : List Val} (hn : c.Nodup) (hl : row.length = c.length) : pickR c c row = row := by
  unfold pickR
  apply List.ext_getElem?
  intro i
  rw [List.getElem?_map]
  by_cases hi : i < c.length
  · rw [List.getElem?_eq_getElem hi, Option.map_some]
    have hin : inC c c[i] = true := by unfold inC; exact decide_eq_true (List.getElem_mem hi)
    have h1 := (lookR_in hin hl).1
    have h2 := idxI_get hin
    have hlt := (List.getElem?_eq_some_iff.1 h2).1
    have e : (idxI c (fun y => c[i] == y)).toNat = i := nodup_idx hn h2 (List.getElem?_eq_getElem hi)
    rw [e] at h1
    exact h1.symm
  · rw [List.getElem?_eq_none (by omega), List.getElem?_eq_none (by omega)]; rfl
theorem mayB_parts {c : List Int} {r : List (List Val)} (h : mayB c r = true) : colsB c = true ∧ r.all (rowB c.length) = true ∧ r.length ≤ 5000 := by
  unfold mayB at h
  simp only [Bool.and_eq_true, decide_eq_true_eq] at h
  exact ⟨h.1.1, h.1.2, h.2⟩
theorem mayB_filter {c : List Int} {r : List (List Val)} (f : List Val → Bool) (h : mayB c r = true) : mayB c (r.filter f) = true := by
  obtain ⟨h1, h2, h3⟩ := mayB_parts h
  unfold mayB
  rw [h1, Bool.true_and, Bool.and_eq_true]
  refine ⟨?_, decide_eq_true (Nat.le_trans (List.length_filter_le _ _) h3)⟩
  rw [List.all_eq_true] at h2 ⊢
  exact fun x hx => h2 x (List.mem_filter.1 hx).1
theorem mayB_nil {c : List Int} {r : List (List Val)} (h : mayB c r = true) : mayB c [] = true := by
  unfold mayB; rw [(mayB_parts h).1]; rfl
theorem pickR_ok {c cols : List Int} {row : List Val} (h : ROk row) : ROk (pickR c cols row) := fun v hv => by
  unfold pickR at hv
  obtain ⟨x, _, rfl⟩ := List.mem_map.1 hv
  exact lookR_ok c h x
end Go.Cf

namespace Go.Cf
open Go Go.Ab
set_option linter.unusedVariables false
theorem len63 {n : Nat} (h : n ≤ maxLen) : n ≤ 9223372036854775807 := h
theorem ty_api_Val {p : PV} (h : Typed cfg t_api_Val p) : ∃ v : Val, p = v.pv ∧ VOk v := by
  obtain ⟨ps, rfl, hl⟩ := h.struct_inv (fs := [(t_int, 0), (t_int, 1)]) (by kernel_rfl)
  obtain ⟨x, qs, rfl, hx, hl⟩ := typedL_cons hl
  obtain ⟨y, rfl, hy⟩ := typedL1 hl
  obtain ⟨a, rfl, ha⟩ := ty_int hx
  obtain ⟨b, rfl, hb⟩ := ty_int hy
  exact ⟨⟨a, b⟩, rfl, ha, hb⟩
def Row0 (r : List Val) : Prop := r.length ≤ 9223372036854775807 ∧ ROk r
theorem ty_s_api_Val {p : PV} (h : Typed cfg t_s_api_Val p) : ∃ r : List Val, p = rowp r ∧ Row0 r := by
  obtain ⟨xs, rfl, hl, hx⟩ := h.slice_inv (e := t_api_Val) (by kernel_rfl)
  obtain ⟨r, rfl, hr⟩ := list_of (Q := VOk) (f := Val.pv) (xs := xs) (fun x h => ty_api_Val (hx x h))
  exact ⟨r, rfl, len63 (by simpa using hl), hr⟩
def Tab0 (t : List (List Val)) : Prop := t.length ≤ 9223372036854775807 ∧ ∀ r ∈ t, Row0 r
theorem ty_s_s_api_Val {p : PV} (h : Typed cfg t_s_s_api_Val p) : ∃ t : List (List Val), p = tabp t ∧ Tab0 t := by
  obtain ⟨xs, rfl, hl, hx⟩ := h.slice_inv (e := t_s_api_Val) (by kernel_rfl)
  obtain ⟨r, rfl, hr⟩ := list_of (Q := Row0) (f := rowp) (xs := xs) (fun x h => ty_s_api_Val (hx x h))
  exact ⟨r, rfl, len63 (by simpa using hl), hr⟩
theorem ty_s_int {p : PV} (h : Typed cfg t_s_int p) : ∃ l : List Int, p = intsp l ∧ (l.length ≤ 9223372036854775807 ∧ ∀ n ∈ l, I64 n) := by
  obtain ⟨xs, rfl, hl, hx⟩ := h.slice_inv (e := t_int) (by kernel_rfl)
  obtain ⟨r, rfl, hr⟩ := list_of (Q := I64) (f := intp) (xs := xs) (fun x h => ty_int (hx x h))
  exact ⟨r, rfl, len63 (by simpa using hl), hr⟩
def Bag0 (b : List Int × List (List Val)) : Prop := b.1.length ≤ 9223372036854775807 ∧ Tab0 b.2
theorem ty_api_Bag {p : PV} (h : Typed cfg t_api_Bag p) : ∃ b : List Int × List (List Val), p = bagp b.1 b.2 ∧ Bag0 b := by
  obtain ⟨ps, rfl, hl⟩ := h.struct_inv (fs := [(t_s_int, 0), (t_s_s_api_Val, 1)]) (by kernel_rfl)
  obtain ⟨x, qs, rfl, hx, hl⟩ := typedL_cons hl
  obtain ⟨y, rfl, hy⟩ := typedL1 hl
  obtain ⟨a, rfl, ha⟩ := ty_s_int hx
  obtain ⟨b, rfl, hb⟩ := ty_s_s_api_Val hy
  exact ⟨(a, b), rfl, ha.1, hb⟩
end Go.Cf

namespace Go.Cf
open Go Go.Ab
set_option linter.unusedVariables false
set_option linter.unusedSimpArgs false
def fineV (v : Val) : Val := bif mayV v then v else badV
theorem w_fine (v : Val) : wc W n_val_fine [v.pv] = some (fineV v).pv := by
  have h := e_val_fine v.K v.N
  have hb := e_val_bad
  rw [Val.fold, w_val_May, hb] at h
  rw [h]
  unfold fineV
  simp only [Option.bind_some, c_b_mk, c_g_i64_i64_mk]
  cases mayV v <;> rfl
theorem w_kind1 (v : Val) (k : Int) : wc W n_val_kind_1 [v.pv, .imm 0 (.int .i64 k) 0] = some (.bool ((fineV v).K == k)) := by
  have h := e_val_kind_1 v.K v.N k
  rw [Val.fold, w_fine] at h
  rw [h]
  simp only [Option.bind_some, Val.c_mk]
theorem w_someKind (l : List Val) (k : Int) (hl : l.length ≤ 9223372036854775807) : wc W n_val_some_api_Val [rowp l, .fn n_val_kind_1 [] [.imm 0 (.int .i64 k) 0]] = some (.bool (l.any fun v => (fineV v).K == k)) := by
  have h := e_val_some_api_Val (l.map Val.pv) (.fn n_val_kind_1 [] [.imm 0 (.int .i64 k) 0])
  rw [rowp_fold, w_anyVal l n_val_kind_1 [] [.imm 0 (.int .i64 k) 0] (fun v => (fineV v).K == k) hl (fun x _ => w_kind1 x k)] at h
  rw [h]
  simp only [Option.bind_some, c_b_mk]
def addN : List Val → Int
  | [] => 0
  | v :: r => (if v.K = 0 then v.N else 0) + addN r
def manyN (l : List Val) : Nat := (l.filter fun v => decide (v.K = 0)).length
def sumV (l : List Val) : Val := bif l.any (fun v => (fineV v).K == 2) then badV else if manyN l = 0 then ⟨1, 0⟩ else if -9223372036854775808 ≤ addN l ∧ addN l ≤ 9223372036854775807 then ⟨0, addN l⟩ else badV
theorem addN_perm {l l' : List Val} (h : l.Perm l') : addN l = addN l' := by
  induction h with
  | nil => rfl
  | cons x _ ih => simp only [addN, ih]
  | swap x y l => simp only [addN]; omega
  | trans _ _ ih1 ih2 => exact ih1.trans ih2
theorem any_perm {α : Type} {l l' : List α} (h : l.Perm l') (f : α → Bool) : l.any f = l'.any f := by
  rw [Bool.eq_iff_iff, List.any_eq_true, List.any_eq_true]
  constructor
  · rintro ⟨x, hx, hf⟩; exact ⟨x, h.mem_iff.1 hx, hf⟩
  · rintro ⟨x, hx, hf⟩; exact ⟨x, h.mem_iff.2 hx, hf⟩
theorem sumV_perm {l l' : List Val} (h : l.Perm l') : sumV l = sumV l' := by
  unfold sumV manyN
  rw [any_perm h, addN_perm h, (h.filter _).length_eq]
theorem wrapU (n : Int) : IntKind.wrap .u64 n = n % 18446744073709551616 := by
  simp only [IntKind.wrap, IntKind.bits, IntKind.signed]
  simp
theorem wrapS (n : Int) (h0 : 0 ≤ n) (h1 : n < 18446744073709551616) : IntKind.wrap .i64 n = if n < 9223372036854775808 then n else n - 18446744073709551616 := by
  simp only [IntKind.wrap, IntKind.bits, IntKind.signed]
  simp
  split <;> omega
theorem sum_step (h lo N S : Int) (h0 : 0 ≤ h) (h1 : h < 18446744073709551616) (l0 : 0 ≤ lo) (l1 : lo < 18446744073709551616) (n0 : -9223372036854775808 ≤ N) (n1 : N ≤ 9223372036854775807)
    (e : (h * 18446744073709551616 + lo) % 340282366920938463463374607431768211456 = S % 340282366920938463463374607431768211456) :
    (((h + ((lo + N % 18446744073709551616 + 0) / 18446744073709551616 + (Int.fdiv N 9223372036854775808) % 18446744073709551616) % 18446744073709551616) % 18446744073709551616) * 18446744073709551616 + (lo + N % 18446744073709551616 + 0) % 18446744073709551616) % 340282366920938463463374607431768211456 = (S + N) % 340282366920938463463374607431768211456 := by
  have hd : Int.fdiv N 9223372036854775808 = if N < 0 then -1 else 0 := by
    rw [Int.fdiv_eq_ediv_of_nonneg _ (by omega)]
    split <;> omega
  rw [hd]
  split
  · omega
  · omega
theorem sum_loop (l : List Val) (hr : ROk l) (hl : l.length ≤ 4294967296) : ∀ (k i : Nat) (h lo : Int) (x y : Int), i + k = l.length → 0 ≤ h → h < 18446744073709551616 → 0 ≤ lo → lo < 18446744073709551616 →
    (h * 18446744073709551616 + lo) % 340282366920938463463374607431768211456 = addN (l.take i) % 340282366920938463463374607431768211456 →
    L_val_Sum_1 h lo ((manyN (l.take i) : Nat) : Int) (l.map Val.pv) (l.length : Int) (i : Int) x y = some (if manyN l = 0 then (⟨1, 0⟩ : Val) else if -9223372036854775808 ≤ addN l ∧ addN l ≤ 9223372036854775807 then ⟨0, addN l⟩ else badV).pv := by
  intro k
  induction k with
  | zero =>
    intro i h lo x y hi h0 h1 l0 l1 e
    have hil : i = l.length := by omega
    subst hil
    rw [List.take_length] at e ⊢
    rw [L_val_Sum_1_eq]
    simp only [ge_len, cond_false]
    by_cases hm : manyN l = 0
    · rw [if_pos hm, beq_t (by omega), e_val_null]; rfl
    · rw [if_neg hm, beq_f (by omega), cond_false]
      have hb : ∀ (m : List Val), ROk m → -(9223372036854775808 * (m.length : Int)) ≤ addN m ∧ addN m ≤ 9223372036854775808 * (m.length : Int) := by
        intro m
        induction m with
        | nil => intro _; simp [addN]
        | cons v m ih =>
          intro hm
          have hv := (hm v (by simp)).2
          have := ih (fun z hz => hm z (by simp [hz]))
          unfold I64 at hv
          simp only [addN, List.length_cons]
          split <;> omega
      have hS := hb l hr
      rw [wrapU, wrapS lo l0 l1]
      have hd : ∀ n : Int, -9223372036854775808 ≤ n → n ≤ 9223372036854775807 → Int.fdiv n 9223372036854775808 = if n < 0 then -1 else 0 := fun n q1 q2 => by
        rw [Int.fdiv_eq_ediv_of_nonneg _ (by omega)]
        split <;> omega
      by_cases hlo : lo < 9223372036854775808
      · rw [if_pos hlo, hd lo (by omega) (by omega), if_neg (by omega)]
        by_cases hh : h = 0
        · subst hh
          rw [bne_f (by decide), cond_false, e_val_Of]
          have hs : addN l = lo := by omega
          rw [if_pos (by omega), hs]; rfl
        · rw [bne_t (by simpa using hh), cond_true, e_val_bad]
          have hs : ¬ (-9223372036854775808 ≤ addN l ∧ addN l ≤ 9223372036854775807) := by omega
          rw [if_neg hs]; rfl
      · rw [if_neg hlo, hd (lo - 18446744073709551616) (by omega) (by omega), if_pos (by omega)]
        by_cases hh : h = 18446744073709551615
        · subst hh
          rw [bne_f (by decide), cond_false, e_val_Of]
          have hs : addN l = lo - 18446744073709551616 := by omega
          rw [if_pos (by omega), hs]; rfl
        · rw [bne_t (by show h ≠ (-1) % 18446744073709551616; omega), cond_true, e_val_bad]
          have hs : ¬ (-9223372036854775808 ≤ addN l ∧ addN l ≤ 9223372036854775807) := by omega
          rw [if_neg hs]; rfl
  | succ k ih =>
    intro i h lo x y hi h0 h1 l0 l1 e
    have hlt : i < l.length := by omega
    have hv := hr l[i] (List.getElem_mem hlt)
    have hN := hv.2
    unfold I64 at hN
    have ht : l.take (i + 1) = l.take i ++ [l[i]] := by rw [List.take_append_getElem]
    have ha : ∀ (m : List Val) (v : Val), addN (m ++ [v]) = addN m + if v.K = 0 then v.N else 0 := by
      intro m v
      induction m with
      | nil => simp [addN]
      | cons z m ih => simp only [List.cons_append, addN, ih]; omega
    have hmn : ∀ (m : List Val) (v : Val), manyN (m ++ [v]) = manyN m + if v.K = 0 then 1 else 0 := by
      intro m v
      unfold manyN
      by_cases hk : v.K = 0 <;> simp [List.filter_append, hk]
    rw [L_val_Sum_1_eq]
    simp only [lt_len hlt, nat_le, cond_true, Int.toNat_natCast, List.getElem?_map, List.getElem?_eq_getElem hlt, Option.map_some, Option.bind_some, Val.c_mk]
    by_cases hk : l[i].K = 0
    · rw [bne_f hk, cond_false, wrapU, x_bits_Add64 lo _ 0 l0 (by omega) (by omega) (by omega)]
      simp only [Option.bind_some, asTup_mk, List.getElem?_cons_zero, List.getElem?_cons_succ, c_u64_mk]
      have e2 := sum_step h lo l[i].N _ h0 h1 l0 l1 hN.1 hN.2 e
      have hml : manyN (l.take i) ≤ l.length := by
        unfold manyN
        exact Nat.le_trans (List.length_filter_le _ _) (by rw [List.length_take]; omega)
      have hm3 : manyN (l.take (i + 1)) = manyN (l.take i) + 1 := by rw [ht, hmn, if_pos hk]
      have ha3 : addN (l.take (i + 1)) = addN (l.take i) + l[i].N := by rw [ht, ha, if_pos hk]
      rw [wrapU, wrapU, wrapU, wrap_succ (show manyN (l.take i) < 9223372036854775807 by omega), wrap_succ (show i < 9223372036854775807 by omega), ← hm3]
      exact ih (i + 1) _ _ x y (by omega) (by omega) (by omega) (by omega) (by omega) (by rw [ha3]; exact e2)
    · have hm3 : manyN (l.take (i + 1)) = manyN (l.take i) := by rw [ht, hmn, if_neg hk]; rfl
      have ha3 : addN (l.take (i + 1)) = addN (l.take i) := by rw [ht, ha, if_neg hk, Int.add_zero]
      rw [bne_t hk, cond_true, wrap_succ (show i < 9223372036854775807 by omega), ← hm3]
      exact ih (i + 1) h lo x y (by omega) h0 h1 l0 l1 (by rw [ha3]; exact e)
theorem w_Sum (l : List Val) (hr : ROk l) (hl : l.length ≤ 4294967296) : wc W n_val_Sum [rowp l] = some (sumV l).pv := by
  have h := e_val_Sum (l.map Val.pv)
  have hk := e_val_kind 2
  rw [rowp_fold, hk] at h
  rw [h]
  simp only [Option.bind_some, w_someKind l 2 (by omega), c_b_mk]
  unfold sumV
  cases l.any (fun v => (fineV v).K == 2) with
  | true => rw [e_val_bad]; rfl
  | false =>
    have := sum_loop l hr hl l.length 0 0 0 0 0 (by omega) (by omega) (by omega) (by omega) (by omega) rfl
    rw [List.length_map]
    exact this
end Go.Cf

namespace Go.Cf
set_option linter.unusedVariables false
theorem merge_split {α : Type} (le : α → α → Bool) : ∀ (n : Nat) (s1 t1 s2 t2 : List α), s1.length + s2.length = n →
    (∀ x ∈ t1, ∀ y ∈ s2, le x y = false) → (∀ x ∈ s1, ∀ y ∈ t2, le x y = true) →
    List.merge (s1 ++ t1) (s2 ++ t2) le = List.merge s1 s2 le ++ List.merge t1 t2 le
  | n, [], t1, [], t2, h, h1, h2 => by simp
  | n, [], [], y :: s2, t2, h, h1, h2 => by simp
  | n + 1, [], x :: t1, y :: s2, t2, h, h1, h2 => by
    have hxy := h1 x (by simp) y (by simp)
    have ih := merge_split le n [] (x :: t1) s2 t2 (by simp at h ⊢; omega) (fun a ha b hb => h1 a ha b (by simp [hb])) (fun a ha => by simp at ha)
    simp only [List.nil_append, List.nil_merge] at ih ⊢
    rw [List.cons_append, List.cons_merge_cons, if_neg (by rw [hxy]; decide), ih]
    rfl
  | n, x :: s1, t1, [], [], h, h1, h2 => by simp
  | n + 1, x :: s1, t1, [], z :: t2, h, h1, h2 => by
    have hxz := h2 x (by simp) z (by simp)
    have ih := merge_split le n s1 t1 [] (z :: t2) (by simp at h ⊢; omega) (fun a ha b hb => by simp at hb) (fun a ha b hb => h2 a (by simp [ha]) b hb)
    simp only [List.nil_append, List.merge_right] at ih ⊢
    rw [List.cons_append, List.cons_merge_cons, if_pos hxz, ih]
    rfl
  | n + 1, x :: s1, t1, y :: s2, t2, h, h1, h2 => by
    simp only [List.cons_append, List.cons_merge_cons]
    by_cases hxy : le x y = true
    · rw [if_pos hxy, if_pos hxy]
      have ih := merge_split le n s1 t1 (y :: s2) t2 (by simp at h ⊢; omega) h1 (fun a ha b hb => h2 a (by simp [ha]) b hb)
      rw [← List.cons_append, ih]; rfl
    · rw [if_neg hxy, if_neg hxy]
      have ih := merge_split le n (x :: s1) t1 s2 t2 (by simp at h ⊢; omega) (fun a ha b hb => h1 a ha b (by simp [hb])) h2
      rw [← List.cons_append, ih]; rfl
  | 0, [], x :: t1, y :: s2, t2, h, h1, h2 => by simp at h
  | 0, x :: s1, t1, [], z :: t2, h, h1, h2 => by simp at h
  | 0, x :: s1, t1, y :: s2, t2, h, h1, h2 => by simp at h
theorem merge_one_left {α : Type} (le : α → α → Bool) (x : α) (s t : List α) (hs : ∀ y ∈ s, le x y = false) (ht : ∀ y ∈ t, le x y = true) : List.merge [x] (s ++ t) le = s ++ x :: t := by
  have h := merge_split le s.length [] [x] s t (by simp) (fun a ha b hb => by simp at ha; subst ha; exact hs b hb) (fun a ha => by simp at ha)
  rw [List.nil_append, List.nil_merge] at h
  rw [h]
  congr 1
  cases t with
  | nil => simp
  | cons z t =>
    rw [List.cons_merge_cons, if_pos (ht z (by simp)), List.nil_merge]
theorem merge_one_right {α : Type} (le : α → α → Bool) (y : α) (s t : List α) (hs : ∀ x ∈ s, le x y = true) (ht : ∀ x ∈ t, le x y = false) : List.merge (s ++ t) [y] le = s ++ y :: t := by
  have h := merge_split le s.length s t [] [y] (by simp) (fun a ha b hb => by simp at hb) (fun a ha b hb => by simp at hb; subst hb; exact hs a ha)
  rw [List.nil_append, List.merge_right] at h
  rw [h]
  congr 1
  cases t with
  | nil => simp
  | cons z t =>
    rw [List.cons_merge_cons, if_neg (by rw [ht z (by simp)]; decide), List.merge_right]
def sw {α : Type} (l : List α) (i j : Nat) : List α := match l[i]?, l[j]? with | some x, some y => (l.set i y).set j x | _, _ => l
theorem sw_at {α : Type} (P M Q : List α) (x y : α) : sw (P ++ x :: (M ++ y :: Q)) P.length (P.length + 1 + M.length) = P ++ y :: (M ++ x :: Q) := by
  have h1 : (P ++ x :: (M ++ y :: Q))[P.length]? = some x := by simp
  have h2 : (P ++ x :: (M ++ y :: Q))[P.length + 1 + M.length]? = some y := by
    rw [List.getElem?_append_right (by omega), show P.length + 1 + M.length - P.length = M.length + 1 by omega, List.getElem?_cons_succ, List.getElem?_append_right (Nat.le_refl _)]
    simp
  unfold sw
  rw [h1, h2]
  simp only
  rw [List.set_append_right _ _ (Nat.le_refl _), Nat.sub_self, List.set_cons_zero, List.set_append_right _ _ (by omega), show P.length + 1 + M.length - P.length = M.length + 1 by omega, List.set_cons_succ, List.set_append_right _ _ (Nat.le_refl _), Nat.sub_self, List.set_cons_zero]
def swapN {α : Type} : Nat → Nat → Nat → List α → List α
  | 0, _, _, l => l
  | n + 1, a, b, l => swapN n (a + 1) (b + 1) (sw l a b)
theorem swapN_spec {α : Type} : ∀ (n : Nat) (P A M B Q : List α), A.length = n → B.length = n → swapN n P.length (P.length + n + M.length) (P ++ (A ++ (M ++ (B ++ Q)))) = P ++ (B ++ (M ++ (A ++ Q)))
  | 0, P, A, M, B, Q, hA, hB => by
    have h1 : A = [] := List.length_eq_zero_iff.1 hA
    have h2 : B = [] := List.length_eq_zero_iff.1 hB
    subst h1; subst h2; rfl
  | n + 1, P, [], M, B, Q, hA, hB => by simp at hA
  | n + 1, P, x :: A, M, [], Q, hA, hB => by simp at hB
  | n + 1, P, x :: A, M, y :: B, Q, hA, hB => by
    have hA' : A.length = n := by simpa using hA
    have hB' : B.length = n := by simpa using hB
    have e := sw_at P (A ++ M) (B ++ Q) x y
    rw [List.append_assoc, List.append_assoc] at e
    have ih := swapN_spec n (P ++ [y]) A (M ++ [x]) B Q hA' hB'
    simp only [List.append_assoc, List.length_append, List.length_singleton, List.cons_append, List.nil_append] at ih e ⊢
    unfold swapN
    rw [show P.length + (n + 1) + M.length = P.length + 1 + (A.length + M.length) by omega, e]
    rw [show P.length + 1 + (A.length + M.length) + 1 = P.length + 1 + n + (M.length + 1) by omega]
    exact ih
def rotG {α : Type} (m : Nat) : Nat → Nat → Nat → List α → List α
  | 0, _, _, l => l
  | f + 1, i, j, l => if i = j then swapN i (m - i) m l else if i > j then rotG m f (i - j) j (swapN j (m - i) m l) else rotG m f i (j - i) (swapN i (m - i) (m + j - i) l)
theorem rotG_spec {α : Type} : ∀ (f i j : Nat) (P X Y Q : List α), X.length = i → Y.length = j → 0 < i → 0 < j → i + j ≤ f →
    rotG (P.length + i) f i j (P ++ (X ++ (Y ++ Q))) = P ++ (Y ++ (X ++ Q))
  | 0, i, j, P, X, Y, Q, hX, hY, hi, hj, hf => by omega
  | f + 1, i, j, P, X, Y, Q, hX, hY, hi, hj, hf => by
    unfold rotG
    by_cases e : i = j
    · rw [if_pos e]
      subst e
      have h := swapN_spec i P X [] Y Q hX hY
      simp only [List.nil_append, List.length_nil, Nat.add_zero] at h
      rw [show P.length + i - i = P.length by omega]
      exact h
    · rw [if_neg e]
      by_cases g : i > j
      · rw [if_pos g]
        obtain ⟨X1, X2, rfl, h1⟩ : ∃ X1 X2, X = X1 ++ X2 ∧ X1.length = j := ⟨X.take j, X.drop j, (List.take_append_drop j X).symm, by simp; omega⟩
        have h2 : X2.length = i - j := by simp at hX; omega
        have h := swapN_spec j P X1 X2 Y Q h1 hY
        rw [show P.length + j + X2.length = P.length + i by omega] at h
        rw [show P.length + i - i = P.length by omega]
        simp only [List.append_assoc] at h ⊢
        rw [h]
        have ih := rotG_spec f (i - j) j (P ++ Y) X2 X1 Q h2 h1 (by omega) hj (by omega)
        simp only [List.append_assoc, List.length_append] at ih
        rw [show P.length + i = P.length + Y.length + (i - j) by omega]
        exact ih
      · rw [if_neg g]
        obtain ⟨Y1, Y2, rfl, h1⟩ : ∃ Y1 Y2, Y = Y1 ++ Y2 ∧ Y1.length = j - i := ⟨Y.take (j - i), Y.drop (j - i), (List.take_append_drop (j - i) Y).symm, by simp; omega⟩
        have h2 : Y2.length = i := by simp at hY; omega
        have h := swapN_spec i P X Y1 Y2 Q hX h2
        rw [show P.length + i + Y1.length = P.length + i + j - i by omega] at h
        rw [show P.length + i - i = P.length by omega]
        simp only [List.append_assoc] at h ⊢
        rw [h]
        have ih := rotG_spec f i (j - i) P Y2 Y1 (X ++ Q) h2 h1 hi (by omega) (by omega)
        exact ih
def bs (q : Nat → Bool) : Nat → Nat → Nat → Nat
  | 0, lo, _ => lo
  | f + 1, lo, hi => if lo < hi then (if q ((lo + hi) / 2) then bs q f ((lo + hi) / 2 + 1) hi else bs q f lo ((lo + hi) / 2)) else lo
theorem bs_spec (q : Nat → Bool) : ∀ (f lo hi : Nat), hi - lo ≤ f → lo ≤ hi → (∀ c d, lo ≤ c → c ≤ d → d < hi → q d = true → q c = true) →
    lo ≤ bs q f lo hi ∧ bs q f lo hi ≤ hi ∧ (∀ c, lo ≤ c → c < bs q f lo hi → q c = true) ∧ ∀ c, bs q f lo hi ≤ c → c < hi → q c = false
  | 0, lo, hi, h, hle, hm => by
    unfold bs
    exact ⟨Nat.le_refl _, hle, fun c h1 h2 => by omega, fun c h1 h2 => by omega⟩
  | f + 1, lo, hi, h, hle, hm => by
    unfold bs
    by_cases hlt : lo < hi
    · rw [if_pos hlt]
      by_cases hq : q ((lo + hi) / 2) = true
      · rw [if_pos hq]
        obtain ⟨k1, k2, k3, k4⟩ := bs_spec q f ((lo + hi) / 2 + 1) hi (by omega) (by omega) (fun c d h1 h2 h3 h4 => hm c d (by omega) h2 h3 h4)
        refine ⟨by omega, k2, fun c h1 h2 => ?_, k4⟩
        by_cases hc : c ≤ (lo + hi) / 2
        · exact hm c _ h1 hc (by omega) hq
        · exact k3 c (by omega) h2
      · rw [if_neg hq]
        obtain ⟨k1, k2, k3, k4⟩ := bs_spec q f lo ((lo + hi) / 2) (by omega) (by omega) (fun c d h1 h2 h3 h4 => hm c d h1 h2 (by omega) h4)
        refine ⟨k1, by omega, k3, fun c h1 h2 => ?_⟩
        by_cases hc : c < (lo + hi) / 2
        · exact k4 c h1 hc
        · cases hqc : q c with
          | false => rfl
          | true => exact absurd (hm _ c (by omega) (by omega) h2 hqc) hq
    · rw [if_neg hlt]
      exact ⟨Nat.le_refl _, hle, fun c h1 h2 => by omega, fun c h1 h2 => by omega⟩
theorem sw_at' {α : Type} (P M Q : List α) (x y : α) : sw (P ++ x :: (M ++ y :: Q)) (P.length + 1 + M.length) P.length = P ++ y :: (M ++ x :: Q) := by
  have h1 : (P ++ x :: (M ++ y :: Q))[P.length]? = some x := by simp
  have h2 : (P ++ x :: (M ++ y :: Q))[P.length + 1 + M.length]? = some y := by
    rw [List.getElem?_append_right (by omega), show P.length + 1 + M.length - P.length = M.length + 1 by omega, List.getElem?_cons_succ, List.getElem?_append_right (Nat.le_refl _)]
    simp
  unfold sw
  rw [h1, h2]
  simp only
  rw [List.set_append_right _ _ (by omega), show P.length + 1 + M.length - P.length = M.length + 1 by omega, List.set_cons_succ, List.set_append_right _ _ (Nat.le_refl _), Nat.sub_self, List.set_cons_zero, List.set_append_right _ _ (Nat.le_refl _), Nat.sub_self, List.set_cons_zero]
def mvR {α : Type} : Nat → Nat → List α → List α
  | 0, _, l => l
  | n + 1, k, l => mvR n (k + 1) (sw l k (k + 1))
theorem mvR_spec {α : Type} : ∀ (n : Nat) (P S Q : List α) (x : α), S.length = n → mvR n P.length (P ++ x :: (S ++ Q)) = P ++ (S ++ x :: Q)
  | 0, P, S, Q, x, h => by
    have h1 : S = [] := List.length_eq_zero_iff.1 h
    subst h1; rfl
  | n + 1, P, [], Q, x, h => by simp at h
  | n + 1, P, y :: S, Q, x, h => by
    have e := sw_at P [] (S ++ Q) x y
    simp only [List.nil_append, List.length_nil, Nat.add_zero] at e
    have ih := mvR_spec n (P ++ [y]) S Q x (by simpa using h)
    simp only [List.append_assoc, List.length_append, List.length_singleton, List.cons_append, List.nil_append] at ih ⊢
    unfold mvR
    rw [e]
    exact ih
def mvL {α : Type} : Nat → Nat → List α → List α
  | 0, _, l => l
  | n + 1, k, l => mvL n (k - 1) (sw l k (k - 1))
theorem mvL_spec {α : Type} : ∀ (n : Nat) (P S Q : List α) (y : α), S.length = n → mvL n (P.length + n) (P ++ (S ++ y :: Q)) = P ++ y :: (S ++ Q)
  | 0, P, S, Q, y, h => by
    have h1 : S = [] := List.length_eq_zero_iff.1 h
    subst h1; rfl
  | n + 1, P, S, Q, y, h => by
    obtain ⟨S', x, rfl⟩ : ∃ S' x, S = S' ++ [x] := ⟨S.dropLast, S.getLast (by intro e; subst e; simp at h), (List.dropLast_concat_getLast _).symm⟩
    have hS : S'.length = n := by simpa using h
    have e := sw_at' (P ++ S') [] Q x y
    simp only [List.nil_append, List.length_nil, Nat.add_zero, List.length_append, List.append_assoc, hS] at e
    have ih := mvL_spec n P S' (x :: Q) y hS
    simp only [List.append_assoc, List.cons_append, List.nil_append] at ih ⊢
    unfold mvL
    rw [show P.length + (n + 1) - 1 = P.length + n by omega, show P.length + (n + 1) = P.length + n + 1 by omega, e]
    exact ih
section
variable {α : Type} (le : α → α → Bool)
def leO (l : List α) (i j : Nat) : Bool := match l[i]?, l[j]? with | some x, some y => le x y | _, _ => true
def symF : Nat → Nat → Nat → Nat → List α → List α
  | 0, _, _, _, l => l
  | f + 1, a, m, b, l =>
    if m - a = 1 then mvR (bs (fun h => !leO le l a h) (b - m) m b - 1 - a) a l
    else if b - m = 1 then mvL (m - bs (fun h => leO le l h m) (m - a) a m) m l
    else
      let mid := (a + b) / 2
      let n := mid + m
      let s := if m > mid then n - b else a
      let r := if m > mid then mid else m
      let st := bs (fun c => leO le l c (n - 1 - c)) (r - s) s r
      let en := n - st
      let l1 := if st < m ∧ m < en then rotG m (en - st) (m - st) (en - m) l else l
      let l2 := if a < st ∧ st < mid then symF f a st mid l1 else l1
      if mid < en ∧ en < b then symF f mid en b l2 else l2
theorem sorted_get {le : α → α → Bool} (hr : ∀ x, le x x = true) {X : List α} (hX : X.Pairwise fun x y => le x y = true) {i j : Nat} {x y : α} (hi : X[i]? = some x) (hj : X[j]? = some y) (hij : i ≤ j) : le x y = true := by
  rcases Nat.lt_or_eq_of_le hij with h | h
  · obtain ⟨h1, rfl⟩ := List.getElem?_eq_some_iff.1 hi
    obtain ⟨h2, rfl⟩ := List.getElem?_eq_some_iff.1 hj
    exact List.pairwise_iff_getElem.1 hX i j h1 h2 h
  · subst h
    rw [hi] at hj; cases hj; exact hr _
theorem merge_nil_left (Y : List α) : List.merge [] Y le = Y := by simp
theorem merge_nil_right (X : List α) : List.merge X [] le = X := by simp
theorem merge_len (X Y : List α) : (List.merge X Y le).length = X.length + Y.length := by
  rw [(List.merge_perm_append (le := le) (xs := X) (ys := Y)).length_eq, List.length_append]
theorem symF_spec (hr : ∀ x, le x x = true) (ht : ∀ x y z, le x y = true → le y z = true → le x z = true) : ∀ (f : Nat) (P X Y Q : List α), X ≠ [] → Y ≠ [] → X.Pairwise (fun x y => le x y = true) → Y.Pairwise (fun x y => le x y = true) → X.length + Y.length ≤ f →
    symF le f P.length (P.length + X.length) (P.length + X.length + Y.length) (P ++ (X ++ (Y ++ Q))) = P ++ (List.merge X Y le ++ Q)
  | 0, P, X, Y, Q, hX, hY, sX, sY, hf => by
    have := List.length_pos_iff.2 hX; omega
  | f + 1, P, X, Y, Q, hX, hY, sX, sY, hf => by
    have lX := List.length_pos_iff.2 hX
    have lY := List.length_pos_iff.2 hY
    have gX : ∀ i, i < X.length → (P ++ (X ++ (Y ++ Q)))[P.length + i]? = X[i]? := fun i hi => by
      rw [List.getElem?_append_right (by omega), show P.length + i - P.length = i by omega, List.getElem?_append_left hi]
    have gY : ∀ i, i < Y.length → (P ++ (X ++ (Y ++ Q)))[P.length + X.length + i]? = Y[i]? := fun i hi => by
      rw [List.getElem?_append_right (by omega), show P.length + X.length + i - P.length = X.length + i by omega, List.getElem?_append_right (by omega), show X.length + i - X.length = i by omega, List.getElem?_append_left hi]
    have q0 : ∀ i j x y, X[i]? = some x → Y[j]? = some y → leO le (P ++ (X ++ (Y ++ Q))) (P.length + i) (P.length + X.length + j) = le x y := fun i j x y hi hj => by
      have h1 := gX i (List.getElem?_eq_some_iff.1 hi).1
      have h2 := gY j (List.getElem?_eq_some_iff.1 hj).1
      unfold leO
      rw [h1, h2, hi, hj]
    unfold symF
    by_cases e1 : X.length = 1
    · rw [if_pos (by omega)]
      obtain ⟨x, rfl⟩ := List.length_eq_one_iff.1 e1
      have qv : ∀ h y, P.length + 1 ≤ h → Y[h - (P.length + 1)]? = some y → leO le (P ++ ([x] ++ (Y ++ Q))) P.length h = le x y := fun h y h1 h2 => by
        have := q0 0 (h - (P.length + 1)) x y rfl h2
        rw [show P.length + [x].length + (h - (P.length + 1)) = h by simp; omega] at this
        exact this
      have bsp := bs_spec (fun h => !leO le (P ++ ([x] ++ (Y ++ Q))) P.length h) (P.length + [x].length + Y.length - (P.length + [x].length)) (P.length + [x].length) (P.length + [x].length + Y.length) (Nat.le_refl _) (by omega) (fun c d h1 h2 h3 h4 => by
        simp only [List.length_singleton] at h1 h3
        have cl : c - (P.length + 1) < Y.length := by omega
        have dl : d - (P.length + 1) < Y.length := by omega
        have v1 := qv c _ h1 (List.getElem?_eq_getElem cl)
        have v2 := qv d _ (by omega) (List.getElem?_eq_getElem dl)
        have h4 : (!leO le (P ++ ([x] ++ (Y ++ Q))) P.length d) = true := h4
        show (!leO le (P ++ ([x] ++ (Y ++ Q))) P.length c) = true
        rw [v2] at h4
        rw [v1]
        have k := sorted_get hr sY (List.getElem?_eq_getElem cl) (List.getElem?_eq_getElem dl) (by omega)
        cases hle : le x Y[c - (P.length + 1)] with
        | false => rfl
        | true => rw [ht _ _ _ hle k] at h4; cases h4)
      generalize bs (fun h => !leO le (P ++ ([x] ++ (Y ++ Q))) P.length h) (P.length + [x].length + Y.length - (P.length + [x].length)) (P.length + [x].length) (P.length + [x].length + Y.length) = i at bsp ⊢
      simp only [List.length_singleton] at bsp
      obtain ⟨b1, b2, b3, b4⟩ := bsp
      obtain ⟨Y1, Y2, hYe, hY1⟩ : ∃ Y1 Y2, Y = Y1 ++ Y2 ∧ Y1.length = i - (P.length + 1) := ⟨Y.take (i - (P.length + 1)), Y.drop (i - (P.length + 1)), (List.take_append_drop _ Y).symm, by simp; omega⟩
      have lY2 : Y1.length + Y2.length = Y.length := by rw [hYe]; simp
      have d1 : ∀ y ∈ Y1, le x y = false := fun y hy => by
        obtain ⟨j, hj, ej⟩ := List.getElem_of_mem hy
        have g : Y[j]? = some y := by rw [hYe, List.getElem?_append_left hj, ← ej]; exact List.getElem?_eq_getElem hj
        have v := qv (P.length + 1 + j) y (by omega) (by rw [show P.length + 1 + j - (P.length + 1) = j by omega]; exact g)
        have h : (!leO le (P ++ ([x] ++ (Y ++ Q))) P.length (P.length + 1 + j)) = true := b3 (P.length + 1 + j) (by omega) (by omega)
        rw [v] at h
        simpa using h
      have d2 : ∀ y ∈ Y2, le x y = true := fun y hy => by
        obtain ⟨j, hj, ej⟩ := List.getElem_of_mem hy
        have g : Y[Y1.length + j]? = some y := by rw [hYe, List.getElem?_append_right (by omega), show Y1.length + j - Y1.length = j by omega, ← ej]; exact List.getElem?_eq_getElem hj
        have v := qv (P.length + 1 + (Y1.length + j)) y (by omega) (by rw [show P.length + 1 + (Y1.length + j) - (P.length + 1) = Y1.length + j by omega]; exact g)
        have h : (!leO le (P ++ ([x] ++ (Y ++ Q))) P.length (P.length + 1 + (Y1.length + j))) = false := b4 (P.length + 1 + (Y1.length + j)) (by omega) (by omega)
        rw [v] at h
        simpa using h
      have hm := merge_one_left le x Y1 Y2 d1 d2
      have hv := mvR_spec (i - 1 - P.length) P Y1 (Y2 ++ Q) x (by omega)
      rw [hYe, hm]
      simp only [List.append_assoc, List.cons_append, List.nil_append] at hv ⊢
      exact hv
    · rw [if_neg (by omega)]
      by_cases e2 : Y.length = 1
      · rw [if_pos (by omega)]
        obtain ⟨y, rfl⟩ := List.length_eq_one_iff.1 e2
        have qv : ∀ h x, P.length ≤ h → X[h - P.length]? = some x → leO le (P ++ (X ++ ([y] ++ Q))) h (P.length + X.length) = le x y := fun h x h1 h2 => by
          have := q0 (h - P.length) 0 x y h2 rfl
          rw [show P.length + (h - P.length) = h by omega] at this
          exact this
        have bsp := bs_spec (fun h => leO le (P ++ (X ++ ([y] ++ Q))) h (P.length + X.length)) (P.length + X.length - P.length) P.length (P.length + X.length) (Nat.le_refl _) (by omega) (fun c d h1 h2 h3 h4 => by
          have cl : c - P.length < X.length := by omega
          have dl : d - P.length < X.length := by omega
          have v1 := qv c _ h1 (List.getElem?_eq_getElem cl)
          have v2 := qv d _ (by omega) (List.getElem?_eq_getElem dl)
          have h4 : leO le (P ++ (X ++ ([y] ++ Q))) d (P.length + X.length) = true := h4
          show leO le (P ++ (X ++ ([y] ++ Q))) c (P.length + X.length) = true
          rw [v2] at h4
          rw [v1]
          exact ht _ _ _ (sorted_get hr sX (List.getElem?_eq_getElem cl) (List.getElem?_eq_getElem dl) (by omega)) h4)
        generalize bs (fun h => leO le (P ++ (X ++ ([y] ++ Q))) h (P.length + X.length)) (P.length + X.length - P.length) P.length (P.length + X.length) = i at bsp ⊢
        obtain ⟨b1, b2, b3, b4⟩ := bsp
        obtain ⟨X1, X2, hXe, hX1⟩ : ∃ X1 X2, X = X1 ++ X2 ∧ X1.length = i - P.length := ⟨X.take (i - P.length), X.drop (i - P.length), (List.take_append_drop _ X).symm, by simp; omega⟩
        have lX2 : X1.length + X2.length = X.length := by rw [hXe]; simp
        have d1 : ∀ x ∈ X1, le x y = true := fun x hx => by
          obtain ⟨j, hj, ej⟩ := List.getElem_of_mem hx
          have g : X[j]? = some x := by rw [hXe, List.getElem?_append_left hj, ← ej]; exact List.getElem?_eq_getElem hj
          have v := qv (P.length + j) x (by omega) (by rw [show P.length + j - P.length = j by omega]; exact g)
          have h : leO le (P ++ (X ++ ([y] ++ Q))) (P.length + j) (P.length + X.length) = true := b3 (P.length + j) (by omega) (by omega)
          rw [v] at h; exact h
        have d2 : ∀ x ∈ X2, le x y = false := fun x hx => by
          obtain ⟨j, hj, ej⟩ := List.getElem_of_mem hx
          have g : X[X1.length + j]? = some x := by rw [hXe, List.getElem?_append_right (by omega), show X1.length + j - X1.length = j by omega, ← ej]; exact List.getElem?_eq_getElem hj
          have v := qv (P.length + (X1.length + j)) x (by omega) (by rw [show P.length + (X1.length + j) - P.length = X1.length + j by omega]; exact g)
          have h : leO le (P ++ (X ++ ([y] ++ Q))) (P.length + (X1.length + j)) (P.length + X.length) = false := b4 (P.length + (X1.length + j)) (by omega) (by omega)
          rw [v] at h; exact h
        have hm := merge_one_right le y X1 X2 d1 d2
        have hv := mvL_spec (P.length + X.length - i) (P ++ X1) X2 Q y (by omega)
        rw [List.length_append, show P.length + X1.length + (P.length + X.length - i) = P.length + X.length by omega] at hv
        generalize hN : P.length + X.length = N at hv ⊢
        rw [hXe, hm]
        simp only [List.append_assoc, List.cons_append, List.nil_append] at hv ⊢
        exact hv
      · rw [if_neg (by omega)]
        simp only
        generalize hmid : (P.length + (P.length + X.length + Y.length)) / 2 = mid
        generalize hs : (if P.length + X.length > mid then mid + (P.length + X.length) - (P.length + X.length + Y.length) else P.length) = s
        generalize hrr : (if P.length + X.length > mid then mid else P.length + X.length) = r
        have hsr : s ≤ r ∧ P.length ≤ s ∧ r ≤ P.length + X.length ∧ r ≤ mid ∧ (s = P.length ∨ s + (P.length + X.length + Y.length) = mid + (P.length + X.length)) ∧ (r = mid ∨ r = P.length + X.length) ∧ mid + (P.length + X.length) ≤ s + (P.length + X.length + Y.length) := by
          rw [← hs, ← hrr]
          split <;> omega
        obtain ⟨s1, s2, s3, s4, s5, s6, s7⟩ := hsr
        have qv : ∀ c x y, P.length ≤ c → c < P.length + X.length → X[c - P.length]? = some x → Y[mid - 1 - c]? = some y → c < mid → leO le (P ++ (X ++ (Y ++ Q))) c (mid + (P.length + X.length) - 1 - c) = le x y := fun c x y h1 h2 h3 h4 h5 => by
          have := q0 (c - P.length) (mid - 1 - c) x y h3 h4
          rw [show P.length + (c - P.length) = c by omega, show P.length + X.length + (mid - 1 - c) = mid + (P.length + X.length) - 1 - c by omega] at this
          exact this
        have bsp := bs_spec (fun c => leO le (P ++ (X ++ (Y ++ Q))) c (mid + (P.length + X.length) - 1 - c)) (r - s) s r (Nat.le_refl _) s1 (fun c d h1 h2 h3 h4 => by
          have c1 : c - P.length < X.length := by omega
          have d1 : d - P.length < X.length := by omega
          have c2 : mid - 1 - c < Y.length := by omega
          have d2 : mid - 1 - d < Y.length := by omega
          have v1 := qv c _ _ (by omega) (by omega) (List.getElem?_eq_getElem c1) (List.getElem?_eq_getElem c2) (by omega)
          have v2 := qv d _ _ (by omega) (by omega) (List.getElem?_eq_getElem d1) (List.getElem?_eq_getElem d2) (by omega)
          have h4 : leO le (P ++ (X ++ (Y ++ Q))) d (mid + (P.length + X.length) - 1 - d) = true := h4
          show leO le (P ++ (X ++ (Y ++ Q))) c (mid + (P.length + X.length) - 1 - c) = true
          rw [v2] at h4
          rw [v1]
          have k1 := sorted_get hr sX (List.getElem?_eq_getElem c1) (List.getElem?_eq_getElem d1) (by omega)
          have k2 := sorted_get hr sY (List.getElem?_eq_getElem d2) (List.getElem?_eq_getElem c2) (by omega)
          exact ht _ _ _ (ht _ _ _ k1 h4) k2)
        generalize bs (fun c => leO le (P ++ (X ++ (Y ++ Q))) c (mid + (P.length + X.length) - 1 - c)) (r - s) s r = st at bsp ⊢
        obtain ⟨b1, b2, b3, b4⟩ := bsp
        obtain ⟨X1, X2, hXe, hX1⟩ : ∃ X1 X2, X = X1 ++ X2 ∧ X1.length = st - P.length := ⟨X.take (st - P.length), X.drop (st - P.length), (List.take_append_drop _ X).symm, by simp; omega⟩
        obtain ⟨Y1, Y2, hYe, hY1⟩ : ∃ Y1 Y2, Y = Y1 ++ Y2 ∧ Y1.length = mid - st := ⟨Y.take (mid - st), Y.drop (mid - st), (List.take_append_drop _ Y).symm, by simp; omega⟩
        have lX2 : X1.length + X2.length = X.length := by rw [hXe]; simp
        have lY2 : Y1.length + Y2.length = Y.length := by rw [hYe]; simp
        have getX2 : ∀ i x, X2[i]? = some x → X[st - P.length + i]? = some x := fun i x h => by
          rw [hXe, List.getElem?_append_right (by omega), show st - P.length + i - X1.length = i by omega]; exact h
        have getX1 : ∀ i x, X1[i]? = some x → X[i]? = some x := fun i x h => by
          have := (List.getElem?_eq_some_iff.1 h).1
          rw [hXe, List.getElem?_append_left this]; exact h
        have getY2 : ∀ i x, Y2[i]? = some x → Y[mid - st + i]? = some x := fun i x h => by
          rw [hYe, List.getElem?_append_right (by omega), show mid - st + i - Y1.length = i by omega]; exact h
        have getY1 : ∀ i x, Y1[i]? = some x → Y[i]? = some x := fun i x h => by
          have := (List.getElem?_eq_some_iff.1 h).1
          rw [hYe, List.getElem?_append_left this]; exact h
        have c1 : ∀ x ∈ X2, ∀ y ∈ Y1, le x y = false := fun x hx y hy => by
          obtain ⟨i, hi, ei⟩ := List.getElem_of_mem hx
          obtain ⟨j, hj, ej⟩ := List.getElem_of_mem hy
          have gi := getX2 i x (by rw [← ei]; exact List.getElem?_eq_getElem hi)
          have gj := getY1 j y (by rw [← ej]; exact List.getElem?_eq_getElem hj)
          have h1 : st - P.length < X.length := by omega
          have h2 : mid - 1 - st < Y.length := by omega
          have hq := b4 st (Nat.le_refl _) (by omega)
          have v := qv st _ _ (by omega) (by omega) (List.getElem?_eq_getElem h1) (List.getElem?_eq_getElem h2) (by omega)
          have hq : leO le (P ++ (X ++ (Y ++ Q))) st (mid + (P.length + X.length) - 1 - st) = false := hq
          rw [v] at hq
          cases hle : le x y with
          | false => rfl
          | true =>
            have k1 := sorted_get hr sX (List.getElem?_eq_getElem h1) gi (by omega)
            have k2 := sorted_get hr sY gj (List.getElem?_eq_getElem h2) (by omega)
            rw [ht _ _ _ (ht _ _ _ k1 hle) k2] at hq; cases hq
        have c2 : ∀ x ∈ X1, ∀ y ∈ Y2, le x y = true := fun x hx y hy => by
          obtain ⟨i, hi, ei⟩ := List.getElem_of_mem hx
          obtain ⟨j, hj, ej⟩ := List.getElem_of_mem hy
          have gi := getX1 i x (by rw [← ei]; exact List.getElem?_eq_getElem hi)
          have gj := getY2 j y (by rw [← ej]; exact List.getElem?_eq_getElem hj)
          have h1 : st - 1 - P.length < X.length := by omega
          have h2 : mid - 1 - (st - 1) < Y.length := by omega
          have hq := b3 (st - 1) (by omega) (by omega)
          have v := qv (st - 1) _ _ (by omega) (by omega) (List.getElem?_eq_getElem h1) (List.getElem?_eq_getElem h2) (by omega)
          have hq : leO le (P ++ (X ++ (Y ++ Q))) (st - 1) (mid + (P.length + X.length) - 1 - (st - 1)) = true := hq
          rw [v] at hq
          have k1 := sorted_get hr sX gi (List.getElem?_eq_getElem h1) (by omega)
          have k2 := sorted_get hr sY (List.getElem?_eq_getElem h2) gj (by omega)
          exact ht _ _ _ (ht _ _ _ k1 hq) k2
        have hsplit := merge_split le _ X1 X2 Y1 Y2 rfl c1 c2
        have sX1 : X1.Pairwise fun x y => le x y = true := (List.pairwise_append.1 (hXe ▸ sX)).1
        have sX2 : X2.Pairwise fun x y => le x y = true := (List.pairwise_append.1 (hXe ▸ sX)).2.1
        have sY1 : Y1.Pairwise fun x y => le x y = true := (List.pairwise_append.1 (hYe ▸ sY)).1
        have sY2 : Y2.Pairwise fun x y => le x y = true := (List.pairwise_append.1 (hYe ▸ sY)).2.1
        have l1 : (if st < P.length + X.length ∧ P.length + X.length < mid + (P.length + X.length) - st then rotG (P.length + X.length) (mid + (P.length + X.length) - st - st) (P.length + X.length - st) (mid + (P.length + X.length) - st - (P.length + X.length)) (P ++ (X ++ (Y ++ Q))) else P ++ (X ++ (Y ++ Q))) = P ++ (X1 ++ (Y1 ++ (X2 ++ (Y2 ++ Q)))) := by
          by_cases hc : st < P.length + X.length ∧ P.length + X.length < mid + (P.length + X.length) - st
          · rw [if_pos hc]
            have h := rotG_spec (mid + (P.length + X.length) - st - st) (P.length + X.length - st) (mid + (P.length + X.length) - st - (P.length + X.length)) (P ++ X1) X2 Y1 (Y2 ++ Q) (by omega) (by omega) (by omega) (by omega) (by omega)
            rw [List.length_append, show P.length + X1.length + (P.length + X.length - st) = P.length + X.length by omega] at h
            simp only [List.append_assoc] at h
            have e : P ++ (X ++ (Y ++ Q)) = P ++ (X1 ++ (X2 ++ (Y1 ++ (Y2 ++ Q)))) := by rw [hXe, hYe]; simp
            rw [e, h]
          · rw [if_neg hc]
            rw [hXe, hYe]
            have : X2 = [] ∨ Y1 = [] := by
              by_cases h1 : st < P.length + X.length
              · right; apply List.length_eq_zero_iff.1; omega
              · left; apply List.length_eq_zero_iff.1; omega
            rcases this with h | h <;> subst h <;> simp
        rw [l1]
        have l2 : (if P.length < st ∧ st < mid then symF le f P.length st mid (P ++ (X1 ++ (Y1 ++ (X2 ++ (Y2 ++ Q))))) else P ++ (X1 ++ (Y1 ++ (X2 ++ (Y2 ++ Q))))) = P ++ (List.merge X1 Y1 le ++ (X2 ++ (Y2 ++ Q))) := by
          by_cases hc : P.length < st ∧ st < mid
          · rw [if_pos hc]
            have h := symF_spec hr ht f P X1 Y1 (X2 ++ (Y2 ++ Q)) (fun e => by rw [e] at hX1; simp at hX1; omega) (fun e => by rw [e] at hY1; simp at hY1; omega) sX1 sY1 (by omega)
            rw [show P.length + X1.length = st by omega, show st + Y1.length = mid by omega] at h
            exact h
          · rw [if_neg hc]
            have : X1 = [] ∨ Y1 = [] := by
              by_cases h1 : P.length < st
              · right; apply List.length_eq_zero_iff.1; omega
              · left; apply List.length_eq_zero_iff.1; omega
            rcases this with h | h <;> subst h <;> simp
        rw [l2]
        have l3 : (if mid < mid + (P.length + X.length) - st ∧ mid + (P.length + X.length) - st < P.length + X.length + Y.length then symF le f mid (mid + (P.length + X.length) - st) (P.length + X.length + Y.length) (P ++ (List.merge X1 Y1 le ++ (X2 ++ (Y2 ++ Q)))) else P ++ (List.merge X1 Y1 le ++ (X2 ++ (Y2 ++ Q)))) = P ++ (List.merge X1 Y1 le ++ (List.merge X2 Y2 le ++ Q)) := by
          by_cases hc : mid < mid + (P.length + X.length) - st ∧ mid + (P.length + X.length) - st < P.length + X.length + Y.length
          · rw [if_pos hc]
            have h := symF_spec hr ht f (P ++ List.merge X1 Y1 le) X2 Y2 Q (fun e => by rw [e] at lX2; simp at lX2; omega) (fun e => by rw [e] at lY2; simp at lY2; omega) sX2 sY2 (by omega)
            rw [List.length_append, merge_len, show P.length + (X1.length + Y1.length) = mid by omega, show mid + X2.length = mid + (P.length + X.length) - st by omega, show mid + (P.length + X.length) - st + Y2.length = P.length + X.length + Y.length by omega] at h
            simp only [List.append_assoc] at h
            exact h
          · rw [if_neg hc]
            have : X2 = [] ∨ Y2 = [] := by
              by_cases h1 : mid < mid + (P.length + X.length) - st
              · right; apply List.length_eq_zero_iff.1; omega
              · left; apply List.length_eq_zero_iff.1; omega
            rcases this with h | h <;> subst h <;> simp
        rw [l3, hXe, hYe, hsplit, List.append_assoc]
def insD : Nat → Nat → List α → List α
  | 0, _, l => l
  | n + 1, k, l => if leO le l (k - 1) k then l else insD n (k - 1) (sw l k (k - 1))
theorem insD_spec (hr : ∀ x, le x x = true) (ht : ∀ x y z, le x y = true → le y z = true → le x z = true) : ∀ (n : Nat) (P X Q : List α) (y : α), X.length = n → X.Pairwise (fun x y => le x y = true) →
    insD le n (P.length + n) (P ++ (X ++ y :: Q)) = P ++ (List.merge X [y] le ++ Q)
  | 0, P, X, Q, y, h, sX => by
    have h1 : X = [] := List.length_eq_zero_iff.1 h
    subst h1
    unfold insD
    simp
  | n + 1, P, X, Q, y, h, sX => by
    obtain ⟨X', x, rfl⟩ : ∃ X' x, X = X' ++ [x] := ⟨X.dropLast, X.getLast (by intro e; subst e; simp at h), (List.dropLast_concat_getLast _).symm⟩
    have hX : X'.length = n := by simpa using h
    have sX' := (List.pairwise_append.1 sX).1
    have g1 : (P ++ (X' ++ [x] ++ y :: Q))[P.length + (n + 1) - 1]? = some x := by
      rw [List.getElem?_append_right (by omega), show P.length + (n + 1) - 1 - P.length = X'.length by omega]; simp
    have g2 : (P ++ (X' ++ [x] ++ y :: Q))[P.length + (n + 1)]? = some y := by
      rw [List.getElem?_append_right (by omega), show P.length + (n + 1) - P.length = (X' ++ [x]).length by simp; omega, List.getElem?_append_right (Nat.le_refl _)]; simp
    have hv : leO le (P ++ (X' ++ [x] ++ y :: Q)) (P.length + (n + 1) - 1) (P.length + (n + 1)) = le x y := by
      unfold leO; rw [g1, g2]
    unfold insD
    rw [hv]
    by_cases hle : le x y = true
    · rw [if_pos hle]
      have hall : ∀ z ∈ X' ++ [x], le z y = true := fun z hz => by
        rcases List.mem_append.1 hz with h1 | h1
        · exact ht _ _ _ ((List.pairwise_append.1 sX).2.2 z h1 x (by simp)) hle
        · simp at h1; subst h1; exact hle
      have hm := merge_one_right le y (X' ++ [x]) [] hall (fun z hz => by simp at hz)
      rw [List.append_nil] at hm
      rw [hm]; simp
    · rw [if_neg hle]
      have e := sw_at' (P ++ X') [] Q x y
      simp only [List.nil_append, List.length_nil, Nat.add_zero, List.length_append, List.append_assoc, hX] at e
      have ih := insD_spec hr ht n P X' (x :: Q) y hX sX'
      have hm := merge_split le _ X' [x] [y] [] rfl (fun a ha b hb => by simp at ha hb; subst ha; subst hb; simpa using hle) (fun a ha b hb => by simp at hb)
      rw [List.append_nil, merge_nil_right] at hm
      rw [hm, show P.length + (n + 1) - 1 = P.length + n by omega, show P.length + (n + 1) = P.length + n + 1 by omega]
      simp only [List.append_assoc, List.cons_append, List.nil_append] at ih ⊢
      rw [e]
      exact ih
def insG : Nat → Nat → Nat → List α → List α
  | 0, _, _, l => l
  | n + 1, a, i, l => insG n a (i + 1) (insD le (i - a) i l)
def isortF (X Z : List α) : List α := Z.foldl (fun acc y => List.merge acc [y] le) X
theorem merge_sorted (hr : ∀ x y, le x y = true ∨ le y x = true) (ht : ∀ x y z, le x y = true → le y z = true → le x z = true) {X Y : List α} (sX : X.Pairwise fun x y => le x y = true) (sY : Y.Pairwise fun x y => le x y = true) :
    (List.merge X Y le).Pairwise fun x y => le x y = true :=
  List.pairwise_merge (le := le) (fun a b c h1 h2 => ht a b c h1 h2) (fun a b => by rcases hr a b with h | h <;> simp [h]) X Y sX sY
theorem insG_spec (hr : ∀ x y, le x y = true ∨ le y x = true) (ht : ∀ x y z, le x y = true → le y z = true → le x z = true) : ∀ (n : Nat) (P X Z Q : List α), Z.length = n → X.Pairwise (fun x y => le x y = true) →
    insG le n P.length (P.length + X.length) (P ++ (X ++ (Z ++ Q))) = P ++ (isortF le X Z ++ Q)
  | 0, P, X, Z, Q, h, sX => by
    have h1 : Z = [] := List.length_eq_zero_iff.1 h
    subst h1; rfl
  | n + 1, P, X, [], Q, h, sX => by simp at h
  | n + 1, P, X, y :: Z, Q, h, sX => by
    have hr' : ∀ x, le x x = true := fun x => by rcases hr x x with h | h <;> exact h
    have h1 := insD_spec le hr' ht X.length P X (Z ++ Q) y rfl sX
    have ih := insG_spec hr ht n P (List.merge X [y] le) Z Q (by simpa using h) (merge_sorted le hr ht sX (by simp))
    unfold insG
    rw [show P.length + X.length - P.length = X.length by omega, List.cons_append, h1]
    rw [merge_len] at ih
    exact ih
abbrev Srt (l : List α) : Prop := l.Pairwise fun x y => le x y = true
inductive ChS (s : Nat) : List α → Prop
  | last (l : List α) (h : l.length ≤ s) (o : Srt le l) : ChS s l
  | cons (x l : List α) (h : x.length = s) (o : Srt le x) (k : ChS s l) : ChS s (x ++ l)
def eqk (k y : α) : Bool := le k y && le y k
theorem merge_filter (hr : ∀ x y, le x y = true ∨ le y x = true) (ht : ∀ x y z, le x y = true → le y z = true → le x z = true) (k : α) : ∀ (X Y : List α), Srt le X → (List.merge X Y le).filter (eqk le k) = X.filter (eqk le k) ++ Y.filter (eqk le k)
  | [], Y, _ => by simp
  | x :: X, [], _ => by simp
  | x :: X, y :: Y, h => by
    have h2 := List.pairwise_cons.1 h
    rw [List.cons_merge_cons]
    cases hxy : le x y with
    | true =>
      rw [if_pos rfl, List.filter_cons, List.filter_cons (xs := X), merge_filter hr ht k X (y :: Y) h2.2]
      split <;> rfl
    | false =>
      rw [if_neg (by simp), List.filter_cons, List.filter_cons (xs := Y), merge_filter hr ht k (x :: X) Y h]
      cases hp : eqk le k y with
      | false => simp
      | true =>
        have e : (x :: X).filter (eqk le k) = [] := by
          refine List.filter_eq_nil_iff.2 fun z hz hk => ?_
          simp only [eqk, Bool.and_eq_true] at hp hk
          have hxz : le x z = true := by
            rcases List.mem_cons.1 hz with rfl | hz
            · rcases hr z z with h | h <;> exact h
            · exact h2.1 z hz
          have := ht _ _ _ hxz (ht _ _ _ hk.2 hp.1)
          rw [hxy] at this; cases this
        rw [e]; simp
structure Keeps (l l' : List α) : Prop where
  perm : l'.Perm l
  same : Srt le l → l' = l
  filt : ∀ k, l'.filter (eqk le k) = l.filter (eqk le k)
theorem Keeps.refl (l : List α) : Keeps le l l := ⟨List.Perm.refl _, fun _ => rfl, fun _ => rfl⟩
theorem Keeps.trans {a b c : List α} (h : Keeps le a b) (k : Keeps le b c) : Keeps le a c := ⟨k.perm.trans h.perm, fun o => by
  have e := h.same o
  rw [e] at k
  rw [k.same o], fun q => (k.filt q).trans (h.filt q)⟩
theorem Keeps.front {a b : List α} (x : List α) (h : Keeps le a b) : Keeps le (x ++ a) (x ++ b) := ⟨h.perm.append_left x, fun o => by rw [h.same (List.pairwise_append.1 o).2.1], fun k => by rw [List.filter_append, List.filter_append, h.filt k]⟩
theorem Keeps.back {a b : List α} (x : List α) (h : Keeps le a b) : Keeps le (a ++ x) (b ++ x) := ⟨h.perm.append_right x, fun o => by rw [h.same (List.pairwise_append.1 o).1], fun k => by rw [List.filter_append, List.filter_append, h.filt k]⟩
theorem merge_keeps (hr : ∀ x y, le x y = true ∨ le y x = true) (ht : ∀ x y z, le x y = true → le y z = true → le x z = true) (X Y : List α) (h : Srt le X) : Keeps le (X ++ Y) (List.merge X Y le) :=
  ⟨List.merge_perm_append le, fun o => List.merge_of_le fun x y hx hy => (List.pairwise_append.1 o).2.2 x hx y hy, fun k => by rw [merge_filter le hr ht k X Y h, List.filter_append]⟩
def pass (s n : Nat) : Nat → Nat → List α → List α
  | 0, _, l => l
  | f + 1, a, l => if a + 2 * s ≤ n then pass s n f (a + 2 * s) (symF le (2 * s) a (a + s) (a + 2 * s) l) else if a + s < n then symF le (n - a) a (a + s) n l else l
theorem pass_spec (hr : ∀ x y, le x y = true ∨ le y x = true) (ht : ∀ x y z, le x y = true → le y z = true → le x z = true) {s : Nat} (hs : 0 < s) : ∀ (f : Nat) (D R : List α) (n : Nat), ChS le s R → n = D.length + R.length → R.length < f →
    ∃ R', pass le s n f D.length (D ++ R) = D ++ R' ∧ ChS le (2 * s) R' ∧ Keeps le R R'
  | 0, D, R, n, h, hn, hf => by omega
  | f + 1, D, R, n, h, hn, hf => by
    have hr' : ∀ x, le x x = true := fun x => by rcases hr x x with h | h <;> exact h
    cases h with
    | last l h o =>
      unfold pass
      rw [if_neg (by omega), if_neg (by omega)]
      exact ⟨R, rfl, .last _ (by omega) o, Keeps.refl le R⟩
    | cons x l h o k =>
      have two : ∀ (y q : List α), y.length ≤ s → y ≠ [] → Srt le y → ∀ F, x.length + y.length ≤ F → symF le F D.length (D.length + s) (D.length + (x.length + y.length)) (D ++ (x ++ (y ++ q))) = D ++ (List.merge x y le ++ q) := fun y q h1 h2 h3 F hF => by
        have := symF_spec le hr' ht F D x y q (fun e => by rw [e] at h; simp at h; omega) h2 o h3 hF
        rw [h] at this ⊢
        rw [Nat.add_assoc] at this
        exact this
      cases k with
      | last _ h1 o1 =>
        unfold pass
        by_cases c1 : D.length + 2 * s ≤ n
        · rw [if_pos c1]
          simp only [List.length_append] at hn
          have hl : l.length = s := by omega
          have ht2 := two l [] h1 (fun e => by rw [e] at hl; simp at hl; omega) o1 (2 * s) (by omega)
          rw [List.append_nil, List.append_nil, show D.length + (x.length + l.length) = D.length + 2 * s by omega] at ht2
          rw [ht2]
          obtain ⟨R', e1, e2, e3⟩ := pass_spec hr ht hs f (D ++ List.merge x l le) [] n (.last _ (by simp) (by simp)) (by simp; omega) (by simp at hf; simp; omega)
          have e0 : R' = [] := by
            have := e3.perm.length_eq
            exact List.length_eq_zero_iff.1 (by simpa using this)
          subst e0
          rw [List.append_nil, List.length_append, merge_len, show D.length + (x.length + l.length) = D.length + 2 * s by omega] at e1
          refine ⟨List.merge x l le, e1, .last _ (by rw [merge_len]; omega) (merge_sorted le hr ht o o1), merge_keeps le hr ht x l o⟩
        · rw [if_neg c1]
          simp only [List.length_append] at hn
          by_cases c2 : D.length + s < n
          · rw [if_pos c2]
            have ht2 := two l [] h1 (fun e => by rw [e] at hn; simp at hn; omega) o1 (n - D.length) (by omega)
            rw [List.append_nil, List.append_nil, show D.length + (x.length + l.length) = n by omega] at ht2
            rw [ht2]
            exact ⟨List.merge x l le, rfl, .last _ (by rw [merge_len]; omega) (merge_sorted le hr ht o o1), merge_keeps le hr ht x l o⟩
          · rw [if_neg c2]
            have hl : l = [] := List.length_eq_zero_iff.1 (by omega)
            subst hl
            rw [List.append_nil]
            exact ⟨x, rfl, .last _ (by omega) o, Keeps.refl le x⟩
      | cons y q h1 o1 k1 =>
        unfold pass
        simp only [List.length_append] at hn hf
        rw [if_pos (by omega)]
        have ht2 := two y q (by omega) (fun e => by rw [e] at h1; simp at h1; omega) o1 (2 * s) (by omega)
        rw [show D.length + (x.length + y.length) = D.length + 2 * s by omega] at ht2
        rw [ht2]
        obtain ⟨R', e1, e2, e3⟩ := pass_spec hr ht hs f (D ++ List.merge x y le) q n k1 (by simp; omega) (by omega)
        rw [List.length_append, merge_len, show D.length + (x.length + y.length) = D.length + 2 * s by omega, List.append_assoc] at e1
        refine ⟨List.merge x y le ++ R', by rw [e1, List.append_assoc], .cons _ _ (by rw [merge_len]; omega) (merge_sorted le hr ht o o1) e2, ?_⟩
        have m1 := (merge_keeps le hr ht x y o).back le q
        rw [List.append_assoc] at m1
        exact m1.trans le (e3.front le _)
def insB (a b : Nat) (l : List α) : List α := insG le (b - (a + 1)) a (a + 1) l
theorem isortF_spec (hr : ∀ x y, le x y = true ∨ le y x = true) (ht : ∀ x y z, le x y = true → le y z = true → le x z = true) : ∀ (Z X : List α), Srt le X → Srt le (isortF le X Z) ∧ Keeps le (X ++ Z) (isortF le X Z)
  | [], X, h => ⟨h, by rw [List.append_nil]; exact Keeps.refl le X⟩
  | y :: Z, X, h => by
    obtain ⟨h1, h2⟩ := isortF_spec hr ht Z (List.merge X [y] le) (merge_sorted le hr ht h (by simp))
    refine ⟨h1, ?_⟩
    have k := (merge_keeps le hr ht X [y] h).back le Z
    rw [List.append_assoc] at k
    exact k.trans le h2
theorem insB_spec (hr : ∀ x y, le x y = true ∨ le y x = true) (ht : ∀ x y z, le x y = true → le y z = true → le x z = true) (P Z Q : List α) : ∃ Z', insB le P.length (P.length + Z.length) (P ++ (Z ++ Q)) = P ++ (Z' ++ Q) ∧ Srt le Z' ∧ Keeps le Z Z' := by
  cases Z with
  | nil => exact ⟨[], by unfold insB; rw [show P.length + ([] : List α).length - (P.length + 1) = 0 by simp]; rfl, by simp, Keeps.refl le _⟩
  | cons z Z =>
    have h := insG_spec le hr ht Z.length P [z] Z Q rfl (by simp)
    obtain ⟨h1, h2⟩ := isortF_spec le hr ht Z [z] (by simp)
    refine ⟨isortF le [z] Z, ?_, h1, h2⟩
    unfold insB
    rw [show P.length + (z :: Z).length - (P.length + 1) = Z.length by simp; omega]
    exact h
def blk1 (n : Nat) : Nat → Nat → List α → List α
  | 0, _, l => l
  | f + 1, a, l => if a + 20 ≤ n then blk1 n f (a + 20) (insB le a (a + 20) l) else insB le a n l
theorem blk1_spec (hr : ∀ x y, le x y = true ∨ le y x = true) (ht : ∀ x y z, le x y = true → le y z = true → le x z = true) : ∀ (f : Nat) (D R : List α) (n : Nat), n = D.length + R.length → R.length < f →
    ∃ R', blk1 le n f D.length (D ++ R) = D ++ R' ∧ ChS le 20 R' ∧ Keeps le R R'
  | 0, D, R, n, hn, hf => by omega
  | f + 1, D, R, n, hn, hf => by
    unfold blk1
    by_cases c : D.length + 20 ≤ n
    · rw [if_pos c]
      obtain ⟨Z, Q, rfl, hZ⟩ : ∃ Z Q, R = Z ++ Q ∧ Z.length = 20 := ⟨R.take 20, R.drop 20, (List.take_append_drop 20 R).symm, by simp; omega⟩
      simp only [List.length_append] at hn hf
      obtain ⟨Z', e1, e2, e3⟩ := insB_spec le hr ht D Z Q
      rw [hZ] at e1
      have hZ' : Z'.length = 20 := by rw [e3.perm.length_eq, hZ]
      rw [e1]
      obtain ⟨R', k1, k2, k3⟩ := blk1_spec hr ht f (D ++ Z') Q n (by simp; omega) (by omega)
      rw [List.length_append, hZ', List.append_assoc] at k1
      refine ⟨Z' ++ R', by rw [k1, List.append_assoc], .cons _ _ hZ' e2 k2, (e3.back le Q).trans le (k3.front le Z')⟩
    · rw [if_neg c]
      obtain ⟨Z', e1, e2, e3⟩ := insB_spec le hr ht D R []
      rw [List.append_nil, List.append_nil, ← hn] at e1
      exact ⟨Z', e1, .last _ (by rw [e3.perm.length_eq]; omega) e2, e3⟩
def stL (n : Nat) : Nat → Nat → List α → List α
  | 0, _, l => l
  | f + 1, s, l => if s < n then stL n f (2 * s) (pass le s n (n + 1) 0 l) else l
theorem chs_sorted {s : Nat} {l : List α} (h : ChS le s l) (hl : l.length ≤ s) : Srt le l := by
  cases h with
  | last _ h o => exact o
  | cons x q h o k =>
    have : q = [] := List.length_eq_zero_iff.1 (by simp at hl; omega)
    subst this
    rw [List.append_nil]; exact o
theorem stL_spec (hr : ∀ x y, le x y = true ∨ le y x = true) (ht : ∀ x y z, le x y = true → le y z = true → le x z = true) : ∀ (f s : Nat) (l : List α), 0 < s → ChS le s l → l.length < f + s → Srt le (stL le l.length f s l) ∧ Keeps le l (stL le l.length f s l)
  | 0, s, l, hs, h, hf => by
    show Srt le l ∧ Keeps le l l
    exact ⟨chs_sorted le h (by omega), Keeps.refl le l⟩
  | f + 1, s, l, hs, h, hf => by
    unfold stL
    by_cases c : s < l.length
    · rw [if_pos c]
      obtain ⟨R', e1, e2, e3⟩ := pass_spec le hr ht hs (l.length + 1) [] l l.length h (by simp) (by omega)
      simp only [List.length_nil, List.nil_append] at e1
      rw [e1]
      have hl := e3.perm.length_eq
      obtain ⟨k1, k2⟩ := stL_spec hr ht f (2 * s) R' (by omega) e2 (by omega)
      rw [hl] at k1 k2
      exact ⟨k1, e3.trans le k2⟩
    · rw [if_neg c]
      exact ⟨chs_sorted le h (by omega), Keeps.refl le l⟩
theorem stable_spec (hr : ∀ x y, le x y = true ∨ le y x = true) (ht : ∀ x y z, le x y = true → le y z = true → le x z = true) (l : List α) :
    Srt le (stL le l.length l.length 20 (blk1 le l.length (l.length + 1) 0 l)) ∧ Keeps le l (stL le l.length l.length 20 (blk1 le l.length (l.length + 1) 0 l)) := by
  obtain ⟨R', e1, e2, e3⟩ := blk1_spec le hr ht (l.length + 1) [] l l.length (by simp) (by omega)
  simp only [List.length_nil, List.nil_append] at e1
  rw [e1]
  have hl := e3.perm.length_eq
  obtain ⟨k1, k2⟩ := stL_spec le hr ht l.length 20 R' (by omega) e2 (by omega)
  rw [hl] at k1 k2
  exact ⟨k1, e3.trans le k2⟩
end
end Go.Cf
