/- Part 13 of the proof: an abstract machine that runs the program's code over plain values, its soundness, and what the functions tell of plain values. Conditions: those in each theorem. -/
import Derived.Test.YtgebkpchpliahaaGreatA11
import Derived.Carry
set_option linter.unusedSectionVars false
namespace Go.Ab
open Go.RowKit (Below)
set_option linter.unusedVariables false
set_option linter.unusedSimpArgs false
variable [GL : Gl]
section
variable {c : Cfg} {t e : TypeId} {p : PV}
theorem Typed.int_inv {k : IntKind} (h : Typed c t p) (hk : (c.at_ t).k = .int k) : ∃ n, p = .int k n ∧ (Lit.int k n).wf = true := by
  cases h with
  | int t k' n h hw => rw [hk] at h; cases h; exact ⟨n, rfl, hw⟩
  | bool t b h => rw [hk] at h; cases h
  | str t s h => rw [hk] at h; cases h
  | slice t e xs h => rw [hk] at h; cases h
  | struct t fs ps h => rw [hk] at h; cases h
  | arr t e n ps h => rw [hk] at h; cases h
theorem Typed.bool_inv (h : Typed c t p) (hk : (c.at_ t).k = .bool) : ∃ b, p = .bool b := by
  cases h with
  | int t k' n h hw => rw [hk] at h; cases h
  | bool t b h => exact ⟨b, rfl⟩
  | str t s h => rw [hk] at h; cases h
  | slice t e xs h => rw [hk] at h; cases h
  | struct t fs ps h => rw [hk] at h; cases h
  | arr t e n ps h => rw [hk] at h; cases h
theorem Typed.str_inv (h : Typed c t p) (hk : (c.at_ t).k = .str) : ∃ s, p = .str s ∧ s.size ≤ maxLen := by
  cases h with
  | int t k' n h hw => rw [hk] at h; cases h
  | bool t b h => rw [hk] at h; cases h
  | str t s h hs => exact ⟨s, rfl, hs⟩
  | slice t e xs h => rw [hk] at h; cases h
  | struct t fs ps h => rw [hk] at h; cases h
  | arr t e n ps h => rw [hk] at h; cases h
theorem Typed.slice_inv (h : Typed c t p) (hk : (c.at_ t).k = .slice e) : ∃ xs, p = .slice (c.sh e) xs ∧ xs.length ≤ maxLen ∧ ∀ x ∈ xs, Typed c e x := by
  cases h with
  | int t k' n h hw => rw [hk] at h; cases h
  | bool t b h => rw [hk] at h; cases h
  | str t s h => rw [hk] at h; cases h
  | slice t e xs h hl hx => rw [hk] at h; cases h; exact ⟨xs, rfl, hl, hx⟩
  | struct t fs ps h => rw [hk] at h; cases h
  | arr t e n ps h => rw [hk] at h; cases h
theorem Typed.arr_inv {n : Nat} (h : Typed c t p) (hk : (c.at_ t).k = .arr n e) : ∃ ps : List PV, p = .agg (ps.flatMap PV.cells) ∧ ps.length = n ∧ ∀ x ∈ ps, Typed c e x := by
  cases h with
  | int t k' n h hw => rw [hk] at h; cases h
  | bool t b h => rw [hk] at h; cases h
  | str t s h => rw [hk] at h; cases h
  | slice t e xs h => rw [hk] at h; cases h
  | struct t fs ps h => rw [hk] at h; cases h
  | arr t e n ps h hl hx => rw [hk] at h; cases h; exact ⟨ps, rfl, hl, hx⟩
def TypedL (c : Cfg) : List TypeId → List PV → Prop
  | [], [] => True
  | t :: ts, p :: ps => Typed c t p ∧ TypedL c ts ps
  | _, _ => False
theorem typedL_of {c : Cfg} : ∀ {fs : List (TypeId × Nat)} {ps : List PV}, ps.length = fs.length → (∀ (i : Nat) (f : TypeId × Nat) (p : PV), fs[i]? = some f → ps[i]? = some p → Typed c f.1 p) → TypedL c (fs.map (·.1)) ps
  | [], [], _, _ => trivial
  | [], _ :: _, h, _ => by simp at h
  | _ :: _, [], h, _ => by simp at h
  | f :: fs, p :: ps, h, k => ⟨k 0 f p rfl rfl, typedL_of (by simpa using h) fun i f p hf hp => k (i + 1) f p (by simpa using hf) (by simpa using hp)⟩
theorem Typed.struct_inv {fs : List (TypeId × Nat)} (h : Typed c t p) (hk : (c.at_ t).k = .struct fs) : ∃ ps : List PV, p = .agg (ps.flatMap PV.cells) ∧ TypedL c (fs.map (·.1)) ps := by
  cases h with
  | int t k' n h hw => rw [hk] at h; cases h
  | bool t b h => rw [hk] at h; cases h
  | str t s h => rw [hk] at h; cases h
  | slice t e xs h => rw [hk] at h; cases h
  | struct t fs ps h hl hp => rw [hk] at h; cases h; exact ⟨ps, rfl, typedL_of hl hp⟩
  | arr t e n ps h => rw [hk] at h; cases h
theorem typedL1 {a : TypeId} {ps : List PV} (h : TypedL c [a] ps) : ∃ x, ps = [x] ∧ Typed c a x := by
  match ps, h with
  | [x], h => exact ⟨x, rfl, h.1⟩
theorem typedL_cons {a : TypeId} {ts : List TypeId} {ps : List PV} (h : TypedL c (a :: ts) ps) : ∃ x qs, ps = x :: qs ∧ Typed c a x ∧ TypedL c ts qs := by
  match ps, h with
  | x :: qs, h => exact ⟨x, qs, rfl, h.1, h.2⟩
theorem typedL_nil {ps : List PV} (h : TypedL c [] ps) : ps = [] := by
  match ps, h with
  | [], h => rfl
theorem list_of {α : Type} {Q : α → Prop} {f : α → PV} : ∀ {xs : List PV}, (∀ x ∈ xs, ∃ a, x = f a ∧ Q a) → ∃ l : List α, xs = l.map f ∧ ∀ a ∈ l, Q a
  | [], _ => ⟨[], rfl, by simp⟩
  | x :: xs, h => by
    obtain ⟨a, rfl, ha⟩ := h x (by simp)
    obtain ⟨l, rfl, hl⟩ := list_of (xs := xs) (fun y hy => h y (List.mem_cons_of_mem _ hy))
    exact ⟨a :: l, rfl, by simpa using ⟨ha, hl⟩⟩
end
end Go.Ab

namespace Go.Cf
open Go Go.Ab
set_option linter.unusedVariables false
theorem ty_int {p : PV} (h : Typed cfg t_int p) : ∃ n : Int, p = .int .i64 n ∧ I64 n := by
  obtain ⟨n, rfl, hw⟩ := h.int_inv (k := .i64) (by kernel_rfl)
  exact ⟨n, rfl, wf_i64 hw⟩
theorem ty_string {p : PV} (h : Typed cfg t_string p) : ∃ s : ByteArray, p = .str s ∧ s.size ≤ maxLen := h.str_inv (by kernel_rfl)
end Go.Cf

namespace Go.Cf
open Go Go.Ab
set_option linter.unusedVariables false
set_option maxRecDepth 100000
noncomputable def jF4 : Jn PV := (Classical.choose (exT fi4 (fin cfg fi4))).1
noncomputable def lF4 : Ln PV := (Classical.choose (exT fi4 (fin cfg fi4))).2
theorem T4 : Tied cfg W fi4 (fin cfg fi4) jF4 lF4 := Classical.choose_spec (exT fi4 (fin cfg fi4))
noncomputable def J_roadbooklaw03_BagPicks_1 (l7 : List PV) (l8 : List PV) (l9 : List PV) (l10 : List PV) (l11 : List PV) : Option PV := jF4 [1, 1, 1, 1, 1] (St.mk [(1, (AV.pv (PV.slice 6 l7))), (2, (AV.pv (PV.slice 0 l8))), (3, (AV.pv (PV.slice 0 l9))), (4, (AV.pv (PV.imm 3 (PV.agg [(PV.slice 0 l10), (PV.slice 0 l11)]) 0)))] [])
noncomputable def J_roadbooklaw03_BagPicks_2 (l24 : List PV) (l25 : List PV) (l26 : List PV) (l27 : List PV) (l28 : List PV) (l29 : List PV) (l30 : List PV) : Option PV := jF4 [1, 1, 1, 1, 1, 1, 1] (St.mk [(1, (AV.pv (PV.slice 6 l24))), (2, (AV.pv (PV.slice 0 l25))), (3, (AV.pv (PV.slice 0 l26))), (4, (AV.pv (PV.imm 3 (PV.agg [(PV.slice 0 l27), (PV.slice 0 l28)]) 0)))] [(Ob.var false 3 (AV.pv (PV.agg [(PV.slice 0 l29), (PV.slice 0 l30)])))])
noncomputable def J_roadbooklaw03_BagPicks_3 (l55 : List PV) (l56 : List PV) (l57 : List PV) (l58 : List PV) (b59 : Bool) (l60 : List PV) (l61 : List PV) (l62 : List PV) (l63 : List PV) (l64 : List PV) (l65 : List PV) (l66 : List PV) (l67 : List PV) : Option PV := jF4 [1, 1, 1, 1, 1, 1, 1, 1, 1, 1, 1] (St.mk [(1, (AV.pv (PV.slice 6 l55))), (2, (AV.pv (PV.slice 0 l56))), (4, (AV.pv (PV.imm 3 (PV.agg [(PV.slice 0 l57), (PV.slice 0 l58)]) 0))), (14, (AV.own 1 0)), (16, (AV.own 2 0)), (18, (AV.own 3 0)), (19, (AV.pv (PV.bool b59)))] [(Ob.var false 3 (AV.pv (PV.agg [(PV.slice 0 l60), (PV.slice 0 l61)]))), (Ob.var false 3 (AV.pv (PV.agg [(PV.slice 0 l62), (PV.slice 0 l63)]))), (Ob.var false 3 (AV.pv (PV.agg [(PV.slice 0 l64), (PV.slice 0 l65)]))), (Ob.var false 3 (AV.pv (PV.agg [(PV.slice 0 l66), (PV.slice 0 l67)])))])
noncomputable def L_roadbooklaw03_BagPicks_4 (l68 : List PV) (l69 : List PV) (l70 : List PV) (l71 : List PV) (b72 : Bool) (i73 : Int) (l74 : List PV) (l75 : List PV) (l76 : List PV) (l77 : List PV) (l78 : List PV) (l79 : List PV) (l80 : List PV) (l81 : List PV) : Option PV := lF4 [0, 1, 0, 1, 1, 1, 1, 1, 1, 1, 1, 1, 1, 1] 4 (St.mk [(1, (AV.pv (PV.slice 6 l68))), (2, (AV.pv (PV.slice 0 l69))), (4, (AV.pv (PV.imm 3 (PV.agg [(PV.slice 0 l70), (PV.slice 0 l71)]) 0))), (14, (AV.own 1 0)), (16, (AV.own 2 0)), (18, (AV.own 3 0)), (19, (AV.pv (PV.bool b72))), (20, (AV.pv (PV.int .i64 i73)))] [(Ob.var false 3 (AV.pv (PV.agg [(PV.slice 0 l74), (PV.slice 0 l75)]))), (Ob.var false 3 (AV.pv (PV.agg [(PV.slice 0 l76), (PV.slice 0 l77)]))), (Ob.var false 3 (AV.pv (PV.agg [(PV.slice 0 l78), (PV.slice 0 l79)]))), (Ob.var false 3 (AV.pv (PV.agg [(PV.slice 0 l80), (PV.slice 0 l81)])))])
noncomputable def L_roadbooklaw03_BagPicks_5 (l90 : List PV) (l91 : List PV) (l92 : List PV) (l93 : List PV) (b94 : Bool) (i95 : Int) (l96 : List PV) (i97 : Int) (l98 : List PV) (l99 : List PV) (l100 : List PV) (l101 : List PV) (l102 : List PV) (l103 : List PV) (l104 : List PV) (l105 : List PV) : Option PV := lF4 [0, 1, 1, 0, 0, 1, 4, 0, 1, 0, 1, 1, 1, 1, 1, 1, 1, 1, 1, 1, 1] 4 (St.mk [(1, (AV.pv (PV.slice 6 l90))), (2, (AV.pv (PV.slice 0 l91))), (4, (AV.pv (PV.imm 3 (PV.agg [(PV.slice 0 l92), (PV.slice 0 l93)]) 0))), (14, (AV.own 1 0)), (16, (AV.own 2 0)), (18, (AV.own 3 0)), (19, (AV.pv (PV.bool b94))), (20, (AV.pv (PV.int .i64 i95))), (21, (AV.pv (PV.slice 0 l96))), (22, (AV.pv (PV.int .i64 i97)))] [(Ob.var false 3 (AV.pv (PV.agg [(PV.slice 0 l98), (PV.slice 0 l99)]))), (Ob.var false 3 (AV.pv (PV.agg [(PV.slice 0 l100), (PV.slice 0 l101)]))), (Ob.var false 3 (AV.pv (PV.agg [(PV.slice 0 l102), (PV.slice 0 l103)]))), (Ob.var false 3 (AV.pv (PV.agg [(PV.slice 0 l104), (PV.slice 0 l105)])))])
theorem J_roadbooklaw03_BagPicks_1_eq (l7 : List PV) (l8 : List PV) (l9 : List PV) (l10 : List PV) (l11 : List PV) : J_roadbooklaw03_BagPicks_1 l7 l8 l9 l10 l11 =
  (((wc W n_bag_Pick [(PV.agg [(PV.slice 0 l10), (PV.slice 0 l11)]), (PV.slice 0 l10)])).bind (fun v12 => (((PV.asTup v12)).bind (fun v13 => (((v13)[0]?).bind (fun v14 => (c_g_s0_s0 v14 (fun v15 v16 => (((PV.asTup v12)).bind (fun v17 => (((v17)[1]?).bind (fun v18 => (c_b v18 (fun v19 => (((wc W n_bag_May [(PV.agg [(PV.slice 0 l10), (PV.slice 0 l11)])])).bind (fun v20 => (c_b v20 (fun v21 => (bif (!(v19 == v21)) then (some (PV.bool false)) else (bif v19 then (((wc W n_roadbookref03_Like [(PV.agg [(PV.slice 0 v15), (PV.slice 0 v16)]), (PV.agg [(PV.slice 0 l10), (PV.slice 0 l11)])])).bind (fun v22 => (c_b v22 (fun v23 => (bif (!v23) then (some (PV.bool false)) else (J_roadbooklaw03_BagPicks_2 l7 l8 l9 l10 l11 v15 v16)))))) else (J_roadbooklaw03_BagPicks_2 l7 l8 l9 l10 l11 v15 v16))))))))))))))))))))) := (T4.join [1, 1, 1, 1, 1] _).trans (by kernel_rfl)
theorem J_roadbooklaw03_BagPicks_2_eq (l24 : List PV) (l25 : List PV) (l26 : List PV) (l27 : List PV) (l28 : List PV) (l29 : List PV) (l30 : List PV) : J_roadbooklaw03_BagPicks_2 l24 l25 l26 l27 l28 l29 l30 =
  (((wc W n_bag_Pick [(PV.agg [(PV.slice 0 l27), (PV.slice 0 l28)]), (PV.slice 0 l25)])).bind (fun v31 => (((PV.asTup v31)).bind (fun v32 => (((v32)[0]?).bind (fun v33 => (c_g_s0_s0 v33 (fun v34 v35 => (((PV.asTup v31)).bind (fun v36 => (((v36)[1]?).bind (fun v37 => (c_b v37 (fun v38 => (((wc W n_bag_Pick [(PV.agg [(PV.slice 0 v34), (PV.slice 0 v35)]), (PV.slice 0 l26)])).bind (fun v39 => (((PV.asTup v39)).bind (fun v40 => (((v40)[0]?).bind (fun v41 => (c_g_s0_s0 v41 (fun v42 v43 => (((PV.asTup v39)).bind (fun v44 => (((v44)[1]?).bind (fun v45 => (c_b v45 (fun v46 => (((wc W n_bag_Pick [(PV.agg [(PV.slice 0 l27), (PV.slice 0 l28)]), (PV.slice 0 l26)])).bind (fun v47 => (((PV.asTup v47)).bind (fun v48 => (((v48)[0]?).bind (fun v49 => (c_g_s0_s0 v49 (fun v50 v51 => (((PV.asTup v47)).bind (fun v52 => (((v52)[1]?).bind (fun v53 => (c_b v53 (fun v54 => (bif (!v38) then (some (PV.bool true)) else (bif (!v46) then (some (PV.bool true)) else (J_roadbooklaw03_BagPicks_3 l24 l25 l27 l28 v54 l29 l30 v34 v35 v42 v43 v50 v51))))))))))))))))))))))))))))))))))))))))))))) := (T4.join [1, 1, 1, 1, 1, 1, 1] _).trans (by kernel_rfl)
theorem J_roadbooklaw03_BagPicks_3_eq (l55 : List PV) (l56 : List PV) (l57 : List PV) (l58 : List PV) (b59 : Bool) (l60 : List PV) (l61 : List PV) (l62 : List PV) (l63 : List PV) (l64 : List PV) (l65 : List PV) (l66 : List PV) (l67 : List PV) : J_roadbooklaw03_BagPicks_3 l55 l56 l57 l58 b59 l60 l61 l62 l63 l64 l65 l66 l67 =
  (L_roadbooklaw03_BagPicks_4 l55 l56 l57 l58 b59 (0 : Int) l60 l61 l62 l63 l64 l65 l66 l67) := (T4.join [1, 1, 1, 1, 1, 1, 1, 1, 1, 1, 1] _).trans (by kernel_rfl)
theorem L_roadbooklaw03_BagPicks_4_eq (l68 : List PV) (l69 : List PV) (l70 : List PV) (l71 : List PV) (b72 : Bool) (i73 : Int) (l74 : List PV) (l75 : List PV) (l76 : List PV) (l77 : List PV) (l78 : List PV) (l79 : List PV) (l80 : List PV) (l81 : List PV) : L_roadbooklaw03_BagPicks_4 l68 l69 l70 l71 b72 i73 l74 l75 l76 l77 l78 l79 l80 l81 =
  (bif (decide (i73 < (((List.length l68) : Nat) : Int))) then (bif (decide ((0 : Int) ≤ i73)) then (((l68)[(Int.toNat i73)]?).bind (fun v82 => (c_g_i64_i64_i64_i64_s6 v82 (fun v83 v84 v85 v86 v87 => (((wc W n_expr_Cols [(PV.agg [(PV.int .i64 v83), (PV.int .i64 v84), (PV.int .i64 v85), (PV.int .i64 v86), (PV.slice 6 v87)])])).bind (fun v88 => (c_s0 v88 (fun v89 => (L_roadbooklaw03_BagPicks_5 l68 l69 l70 l71 b72 i73 v89 (0 : Int) l74 l75 l76 l77 l78 l79 l80 l81))))))))) else none) else (((wc W n_bag_Keep [(PV.agg [(PV.slice 0 l70), (PV.slice 0 l71)]), (PV.slice 6 l68)])).bind (fun v106 => (c_g_s0_s0 v106 (fun v107 v108 => (((wc W n_bag_Pick [(PV.agg [(PV.slice 0 v107), (PV.slice 0 v108)]), (PV.slice 0 l69)])).bind (fun v109 => (((PV.asTup v109)).bind (fun v110 => (((v110)[0]?).bind (fun v111 => (c_g_s0_s0 v111 (fun v112 v113 => (((PV.asTup v109)).bind (fun v114 => (((v114)[1]?).bind (fun v115 => (c_b v115 (fun v116 => (bif b72 then (((wc W n_roadbookref03_Like [(PV.agg [(PV.slice 0 l78), (PV.slice 0 l79)]), (PV.agg [(PV.slice 0 l80), (PV.slice 0 l81)])])).bind (fun v117 => (c_b v117 (fun v118 => (bif v118 then (bif v116 then (((wc W n_bag_Keep [(PV.agg [(PV.slice 0 l76), (PV.slice 0 l77)]), (PV.slice 6 l68)])).bind (fun v119 => (c_g_s0_s0 v119 (fun v120 v121 => (((wc W n_roadbookref03_Like [(PV.agg [(PV.slice 0 v112), (PV.slice 0 v113)]), (PV.agg [(PV.slice 0 v120), (PV.slice 0 v121)])])).bind (fun v122 => (c_b v122 (fun v123 => (some (PV.bool v123)))))))))) else (some (PV.bool false))) else (some (PV.bool false))))))) else (some (PV.bool false)))))))))))))))))))))) := (T4.loop [1, 1, 1, 1, 1, 1, 1, 1, 1, 1, 1, 0, 1, 0] 4 _ rfl).trans (by kernel_rfl)
theorem L_roadbooklaw03_BagPicks_5_eq (l90 : List PV) (l91 : List PV) (l92 : List PV) (l93 : List PV) (b94 : Bool) (i95 : Int) (l96 : List PV) (i97 : Int) (l98 : List PV) (l99 : List PV) (l100 : List PV) (l101 : List PV) (l102 : List PV) (l103 : List PV) (l104 : List PV) (l105 : List PV) : L_roadbooklaw03_BagPicks_5 l90 l91 l92 l93 b94 i95 l96 i97 l98 l99 l100 l101 l102 l103 l104 l105 =
  (bif (decide (i97 < (((List.length l96) : Nat) : Int))) then (bif (decide ((0 : Int) ≤ i97)) then (((l96)[(Int.toNat i97)]?).bind (fun v124 => (c_i64 v124 (fun v125 => (((wc W n_roadbookref03_Place [(PV.slice 0 l91), (PV.int .i64 v125)])).bind (fun v126 => (c_i64 v126 (fun v127 => (bif (decide (v127 < (0 : Int))) then (bif b94 then (((wc W n_roadbookref03_Like [(PV.agg [(PV.slice 0 l102), (PV.slice 0 l103)]), (PV.agg [(PV.slice 0 l104), (PV.slice 0 l105)])])).bind (fun v128 => (c_b v128 (fun v129 => (some (PV.bool v129)))))) else (some (PV.bool false))) else (L_roadbooklaw03_BagPicks_5 l90 l91 l92 l93 b94 i95 l96 (IntKind.wrap .i64 (i97 + (1 : Int) : Int)) l98 l99 l100 l101 l102 l103 l104 l105)))))))))) else none) else (L_roadbooklaw03_BagPicks_4 l90 l91 l92 l93 b94 (IntKind.wrap .i64 (i95 + (1 : Int) : Int)) l98 l99 l100 l101 l102 l103 l104 l105)) := (T4.loop [1, 1, 1, 1, 1, 1, 1, 1, 1, 1, 1, 0, 1, 0, 4, 1, 0, 0, 1, 1, 0] 4 _ rfl).trans (by kernel_rfl)
theorem e_roadbooklaw03_BagPicks (a0_0 : List PV) (a0_1 : List PV) (a1 : List PV) (a2 : List PV) (a3 : List PV) : wc W n_roadbooklaw03_BagPicks [(PV.agg [(PV.slice 0 a0_0), (PV.slice 0 a0_1)]), (PV.slice 6 a1), (PV.slice 0 a2), (PV.slice 0 a3)] =
  (((wc W n_roadbooklaw03_awake [])).bind (fun v1 => (c_b v1 (fun v2 => (((wc W n_roadbooklaw03_few [(PV.agg [(PV.slice 0 a0_0), (PV.slice 0 a0_1)]), (PV.int .i64 (30 : Int))])).bind (fun v3 => (c_b v3 (fun v4 => (((wc W n_roadbooklaw03_light [(PV.slice 6 a1)])).bind (fun v5 => (c_b v5 (fun v6 => (bif (!v2) then (some (PV.bool v2)) else (bif (!v4) then (some (PV.bool v2)) else (bif (!v6) then (some (PV.bool v2)) else (bif (decide (GT.gt (((List.length a2) : Nat) : Int) (20 : Int))) then (some (PV.bool v2)) else (bif (decide (GT.gt (((List.length a3) : Nat) : Int) (20 : Int))) then (some (PV.bool v2)) else (J_roadbooklaw03_BagPicks_1 a1 a2 a3 a0_0 a0_1)))))))))))))))))) := go (by kernel_rfl) (by kernel_rfl) T4 (by kernel_rfl)
noncomputable def jF5 : Jn PV := (Classical.choose (exT fi5 (fin cfg fi5))).1
noncomputable def lF5 : Ln PV := (Classical.choose (exT fi5 (fin cfg fi5))).2
theorem T5 : Tied cfg W fi5 (fin cfg fi5) jF5 lF5 := Classical.choose_spec (exT fi5 (fin cfg fi5))
noncomputable def J_roadbooklaw03_BagKeeps_1 (l11 : List PV) (l12 : List PV) (l13 : List PV) (l14 : List PV) (l15 : List PV) (l16 : List PV) : Option PV := jF5 [1, 1, 1, 1, 1, 1, 1] (St.mk [(2, (AV.pv (PV.slice 6 l11))), (3, (AV.pv (PV.slice 6 l12))), (4, (AV.pv (PV.imm 3 (PV.agg [(PV.slice 0 l13), (PV.slice 0 l14)]) 0))), (5, (AV.pv (PV.imm 3 (PV.agg [(PV.slice 0 l15), (PV.slice 0 l16)]) 0)))] [])
noncomputable def J_roadbooklaw03_BagKeeps_2 (l36 : List PV) (l37 : List PV) (l38 : List PV) (l39 : List PV) (l40 : List PV) (l41 : List PV) (l42 : List PV) (l43 : List PV) (l44 : List PV) : Option PV := jF5 [1, 1, 1, 1, 1, 1, 1, 1, 1, 1, 1] (St.mk [(2, (AV.pv (PV.slice 6 l36))), (4, (AV.pv (PV.imm 3 (PV.agg [(PV.slice 0 l37), (PV.slice 0 l38)]) 0))), (5, (AV.pv (PV.imm 3 (PV.agg [(PV.slice 0 l39), (PV.slice 0 l40)]) 0)))] [Ob.dead, (Ob.var false 3 (AV.pv (PV.agg [(PV.slice 0 l41), (PV.slice 0 l42)]))), (Ob.var false 3 (AV.pv (PV.agg [(PV.slice 0 l43), (PV.slice 0 l44)])))])
noncomputable def L_roadbooklaw03_BagKeeps_3 (l45 : List PV) (l46 : List PV) (l47 : List PV) (l48 : List PV) (l49 : List PV) (i50 : Int) (l51 : List PV) (l52 : List PV) (l53 : List PV) (l54 : List PV) : Option PV := lF5 [0, 1, 0, 1, 1, 1, 1, 1, 1, 1, 1, 1, 1, 1] 3 (St.mk [(2, (AV.pv (PV.slice 6 l45))), (4, (AV.pv (PV.imm 3 (PV.agg [(PV.slice 0 l46), (PV.slice 0 l47)]) 0))), (5, (AV.pv (PV.imm 3 (PV.agg [(PV.slice 0 l48), (PV.slice 0 l49)]) 0))), (17, (AV.pv (PV.int .i64 i50)))] [Ob.dead, (Ob.var false 3 (AV.pv (PV.agg [(PV.slice 0 l51), (PV.slice 0 l52)]))), (Ob.var false 3 (AV.pv (PV.agg [(PV.slice 0 l53), (PV.slice 0 l54)])))])
noncomputable def L_roadbooklaw03_BagKeeps_4 (l63 : List PV) (l64 : List PV) (l65 : List PV) (l66 : List PV) (l67 : List PV) (i68 : Int) (l69 : List PV) (i70 : Int) (l71 : List PV) (l72 : List PV) (l73 : List PV) (l74 : List PV) : Option PV := lF5 [0, 1, 1, 0, 0, 1, 3, 0, 1, 0, 1, 1, 1, 1, 1, 1, 1, 1, 1, 1, 1] 3 (St.mk [(2, (AV.pv (PV.slice 6 l63))), (4, (AV.pv (PV.imm 3 (PV.agg [(PV.slice 0 l64), (PV.slice 0 l65)]) 0))), (5, (AV.pv (PV.imm 3 (PV.agg [(PV.slice 0 l66), (PV.slice 0 l67)]) 0))), (17, (AV.pv (PV.int .i64 i68))), (18, (AV.pv (PV.slice 0 l69))), (19, (AV.pv (PV.int .i64 i70)))] [Ob.dead, (Ob.var false 3 (AV.pv (PV.agg [(PV.slice 0 l71), (PV.slice 0 l72)]))), (Ob.var false 3 (AV.pv (PV.agg [(PV.slice 0 l73), (PV.slice 0 l74)])))])
theorem J_roadbooklaw03_BagKeeps_1_eq (l11 : List PV) (l12 : List PV) (l13 : List PV) (l14 : List PV) (l15 : List PV) (l16 : List PV) : J_roadbooklaw03_BagKeeps_1 l11 l12 l13 l14 l15 l16 =
  (bif (decide ((List.length l11) ≤ 4294967296)) then (bif (true && (decide (((List.length l11) + (List.length l12) : Nat) ≤ 4294967296))) then (((wc W n_bag_Keep [(PV.agg [(PV.slice 0 l13), (PV.slice 0 l14)]), (PV.slice 6 l11)])).bind (fun v17 => (c_g_s0_s0 v17 (fun v18 v19 => (((wc W n_bag_Keep [(PV.agg [(PV.slice 0 v18), (PV.slice 0 v19)]), (PV.slice 6 l12)])).bind (fun v20 => (c_g_s0_s0 v20 (fun v21 v22 => (((wc W n_bag_Keep [(PV.agg [(PV.slice 0 l13), (PV.slice 0 l14)]), (PV.slice 6 l12)])).bind (fun v23 => (c_g_s0_s0 v23 (fun v24 v25 => (((wc W n_bag_Keep [(PV.agg [(PV.slice 0 v24), (PV.slice 0 v25)]), (PV.slice 6 l11)])).bind (fun v26 => (c_g_s0_s0 v26 (fun v27 v28 => (((wc W n_bag_Keep [(PV.agg [(PV.slice 0 l13), (PV.slice 0 l14)]), (PV.slice 6 (l11 ++ l12))])).bind (fun v29 => (c_g_s0_s0 v29 (fun v30 v31 => (((wc W n_roadbookref03_Like [(PV.agg [(PV.slice 0 v21), (PV.slice 0 v22)]), (PV.agg [(PV.slice 0 v30), (PV.slice 0 v31)])])).bind (fun v32 => (c_b v32 (fun v33 => (bif (!v33) then (some (PV.bool false)) else (((wc W n_roadbookref03_Like [(PV.agg [(PV.slice 0 v21), (PV.slice 0 v22)]), (PV.agg [(PV.slice 0 v27), (PV.slice 0 v28)])])).bind (fun v34 => (c_b v34 (fun v35 => (bif (!v35) then (some (PV.bool false)) else (bif (decide (GT.gt (((List.length v22) : Nat) : Int) (((List.length l14) : Nat) : Int))) then (some (PV.bool false)) else (J_roadbooklaw03_BagKeeps_2 l11 l13 l14 l15 l16 v21 v22 v27 v28)))))))))))))))))))))))))))))))) else none) else none) := (T5.join [1, 1, 1, 1, 1, 1, 1] _).trans (by kernel_rfl)
theorem J_roadbooklaw03_BagKeeps_2_eq (l36 : List PV) (l37 : List PV) (l38 : List PV) (l39 : List PV) (l40 : List PV) (l41 : List PV) (l42 : List PV) (l43 : List PV) (l44 : List PV) : J_roadbooklaw03_BagKeeps_2 l36 l37 l38 l39 l40 l41 l42 l43 l44 =
  (L_roadbooklaw03_BagKeeps_3 l36 l37 l38 l39 l40 (0 : Int) l41 l42 l43 l44) := (T5.join [1, 1, 1, 1, 1, 1, 1, 1, 1, 1, 1] _).trans (by kernel_rfl)
theorem L_roadbooklaw03_BagKeeps_3_eq (l45 : List PV) (l46 : List PV) (l47 : List PV) (l48 : List PV) (l49 : List PV) (i50 : Int) (l51 : List PV) (l52 : List PV) (l53 : List PV) (l54 : List PV) : L_roadbooklaw03_BagKeeps_3 l45 l46 l47 l48 l49 i50 l51 l52 l53 l54 =
  (bif (decide (i50 < (((List.length l45) : Nat) : Int))) then (bif (decide ((0 : Int) ≤ i50)) then (((l45)[(Int.toNat i50)]?).bind (fun v55 => (c_g_i64_i64_i64_i64_s6 v55 (fun v56 v57 v58 v59 v60 => (((wc W n_expr_Cols [(PV.agg [(PV.int .i64 v56), (PV.int .i64 v57), (PV.int .i64 v58), (PV.int .i64 v59), (PV.slice 6 v60)])])).bind (fun v61 => (c_s0 v61 (fun v62 => (L_roadbooklaw03_BagKeeps_4 l45 l46 l47 l48 l49 i50 v62 (0 : Int) l51 l52 l53 l54))))))))) else none) else (((wc W n_bag_Cross [(PV.agg [(PV.slice 0 l46), (PV.slice 0 l47)]), (PV.agg [(PV.slice 0 l48), (PV.slice 0 l49)])])).bind (fun v75 => (((PV.asTup v75)).bind (fun v76 => (((v76)[0]?).bind (fun v77 => (c_g_s0_s0 v77 (fun v78 v79 => (((PV.asTup v75)).bind (fun v80 => (((v80)[1]?).bind (fun v81 => (c_b v81 (fun v82 => (((wc W n_bag_Keep [(PV.agg [(PV.slice 0 l46), (PV.slice 0 l47)]), (PV.slice 6 l45)])).bind (fun v83 => (c_g_s0_s0 v83 (fun v84 v85 => (((wc W n_bag_Cross [(PV.agg [(PV.slice 0 v84), (PV.slice 0 v85)]), (PV.agg [(PV.slice 0 l48), (PV.slice 0 l49)])])).bind (fun v86 => (((PV.asTup v86)).bind (fun v87 => (((v87)[0]?).bind (fun v88 => (c_g_s0_s0 v88 (fun v89 v90 => (((PV.asTup v86)).bind (fun v91 => (((v91)[1]?).bind (fun v92 => (c_b v92 (fun v93 => (bif (!v82) then (some (PV.bool true)) else (bif v93 then (((wc W n_bag_Keep [(PV.agg [(PV.slice 0 v78), (PV.slice 0 v79)]), (PV.slice 6 l45)])).bind (fun v94 => (c_g_s0_s0 v94 (fun v95 v96 => (((wc W n_roadbookref03_Like [(PV.agg [(PV.slice 0 v95), (PV.slice 0 v96)]), (PV.agg [(PV.slice 0 v89), (PV.slice 0 v90)])])).bind (fun v97 => (c_b v97 (fun v98 => (some (PV.bool v98)))))))))) else (some (PV.bool false))))))))))))))))))))))))))))))))))))) := (T5.loop [1, 1, 1, 1, 1, 1, 1, 1, 1, 1, 1, 0, 1, 0] 3 _ rfl).trans (by kernel_rfl)
theorem L_roadbooklaw03_BagKeeps_4_eq (l63 : List PV) (l64 : List PV) (l65 : List PV) (l66 : List PV) (l67 : List PV) (i68 : Int) (l69 : List PV) (i70 : Int) (l71 : List PV) (l72 : List PV) (l73 : List PV) (l74 : List PV) : L_roadbooklaw03_BagKeeps_4 l63 l64 l65 l66 l67 i68 l69 i70 l71 l72 l73 l74 =
  (bif (decide (i70 < (((List.length l69) : Nat) : Int))) then (bif (decide ((0 : Int) ≤ i70)) then (((l69)[(Int.toNat i70)]?).bind (fun v99 => (c_i64 v99 (fun v100 => (((wc W n_roadbookref03_Place [(PV.slice 0 l64), (PV.int .i64 v100)])).bind (fun v101 => (c_i64 v101 (fun v102 => (bif (decide (v102 < (0 : Int))) then (some (PV.bool true)) else (L_roadbooklaw03_BagKeeps_4 l63 l64 l65 l66 l67 i68 l69 (IntKind.wrap .i64 (i70 + (1 : Int) : Int)) l71 l72 l73 l74)))))))))) else none) else (L_roadbooklaw03_BagKeeps_3 l63 l64 l65 l66 l67 (IntKind.wrap .i64 (i68 + (1 : Int) : Int)) l71 l72 l73 l74)) := (T5.loop [1, 1, 1, 1, 1, 1, 1, 1, 1, 1, 1, 0, 1, 0, 3, 1, 0, 0, 1, 1, 0] 3 _ rfl).trans (by kernel_rfl)
theorem e_roadbooklaw03_BagKeeps (a0_0 : List PV) (a0_1 : List PV) (a1_0 : List PV) (a1_1 : List PV) (a2 : List PV) (a3 : List PV) : wc W n_roadbooklaw03_BagKeeps [(PV.agg [(PV.slice 0 a0_0), (PV.slice 0 a0_1)]), (PV.agg [(PV.slice 0 a1_0), (PV.slice 0 a1_1)]), (PV.slice 6 a2), (PV.slice 6 a3)] =
  (((wc W n_roadbooklaw03_awake [])).bind (fun v1 => (c_b v1 (fun v2 => (((wc W n_roadbooklaw03_few [(PV.agg [(PV.slice 0 a0_0), (PV.slice 0 a0_1)]), (PV.int .i64 (30 : Int))])).bind (fun v3 => (c_b v3 (fun v4 => (((wc W n_roadbooklaw03_few [(PV.agg [(PV.slice 0 a1_0), (PV.slice 0 a1_1)]), (PV.int .i64 (30 : Int))])).bind (fun v5 => (c_b v5 (fun v6 => (((wc W n_roadbooklaw03_light [(PV.slice 6 a2)])).bind (fun v7 => (c_b v7 (fun v8 => (((wc W n_roadbooklaw03_light [(PV.slice 6 a3)])).bind (fun v9 => (c_b v9 (fun v10 => (bif (!v2) then (some (PV.bool v2)) else (bif (!v4) then (some (PV.bool v2)) else (bif (!v6) then (some (PV.bool v2)) else (bif (!v8) then (some (PV.bool v2)) else (bif (!v10) then (some (PV.bool v2)) else (J_roadbooklaw03_BagKeeps_1 a2 a3 a0_0 a0_1 a1_0 a1_1)))))))))))))))))))))))))) := go (by kernel_rfl) (by kernel_rfl) T5 (by kernel_rfl)
noncomputable def jF10 : Jn PV := (Classical.choose (exT fi10 (fin cfg fi10))).1
noncomputable def lF10 : Ln PV := (Classical.choose (exT fi10 (fin cfg fi10))).2
theorem T10 : Tied cfg W fi10 (fin cfg fi10) jF10 lF10 := Classical.choose_spec (exT fi10 (fin cfg fi10))
noncomputable def J_roadbookref03_Like_1 (l3 : List PV) (l4 : List PV) (l5 : List PV) (l6 : List PV) : Option PV := jF10 [1, 1, 1] (St.mk [(2, (AV.pv (PV.imm 3 (PV.agg [(PV.slice 0 l3), (PV.slice 0 l4)]) 0))), (3, (AV.pv (PV.imm 3 (PV.agg [(PV.slice 0 l5), (PV.slice 0 l6)]) 0)))] [])
noncomputable def L_roadbookref03_Like_2 (l7 : List PV) (l8 : List PV) (l9 : List PV) (l10 : List PV) (i11 : Int) : Option PV := lF10 [0, 1, 0, 1, 1, 1] 0 (St.mk [(2, (AV.pv (PV.imm 3 (PV.agg [(PV.slice 0 l7), (PV.slice 0 l8)]) 0))), (3, (AV.pv (PV.imm 3 (PV.agg [(PV.slice 0 l9), (PV.slice 0 l10)]) 0))), (6, (AV.pv (PV.int .i64 i11)))] [])
theorem J_roadbookref03_Like_1_eq (l3 : List PV) (l4 : List PV) (l5 : List PV) (l6 : List PV) : J_roadbookref03_Like_1 l3 l4 l5 l6 =
  (L_roadbookref03_Like_2 l3 l4 l5 l6 (0 : Int)) := (T10.join [1, 1, 1] _).trans (by kernel_rfl)
theorem L_roadbookref03_Like_2_eq (l7 : List PV) (l8 : List PV) (l9 : List PV) (l10 : List PV) (i11 : Int) : L_roadbookref03_Like_2 l7 l8 l9 l10 i11 =
  (bif (decide (i11 < (((List.length l8) : Nat) : Int))) then (bif (decide ((0 : Int) ≤ i11)) then (((l8)[(Int.toNat i11)]?).bind (fun v12 => (c_s3 v12 (fun v13 => (bif (decide ((0 : Int) ≤ i11)) then (((l10)[(Int.toNat i11)]?).bind (fun v14 => (c_s3 v14 (fun v15 => (((wc W n_roadbookref03_Row [(PV.slice 3 v13), (PV.slice 3 v15)])).bind (fun v16 => (c_b v16 (fun v17 => (bif (!v17) then (some (PV.bool false)) else (L_roadbookref03_Like_2 l7 l8 l9 l10 (IntKind.wrap .i64 (i11 + (1 : Int) : Int)))))))))))) else none))))) else none) else (some (PV.bool true))) := (T10.loop [1, 1, 1, 0, 1, 0] 0 _ rfl).trans (by kernel_rfl)
theorem e_roadbookref03_Like (a0_0 : List PV) (a0_1 : List PV) (a1_0 : List PV) (a1_1 : List PV) : wc W n_roadbookref03_Like [(PV.agg [(PV.slice 0 a0_0), (PV.slice 0 a0_1)]), (PV.agg [(PV.slice 0 a1_0), (PV.slice 0 a1_1)])] =
  (((wc W n_roadbookref02_Ints [(PV.slice 0 a0_0), (PV.slice 0 a1_0)])).bind (fun v1 => (c_b v1 (fun v2 => (bif (!v2) then (some (PV.bool false)) else (bif ((((List.length a0_1) : Nat) : Int) != (((List.length a1_1) : Nat) : Int)) then (some (PV.bool false)) else (J_roadbookref03_Like_1 a0_0 a0_1 a1_0 a1_1))))))) := go (by kernel_rfl) (by kernel_rfl) T10 (by kernel_rfl)
noncomputable def jF11 : Jn PV := (Classical.choose (exT fi11 (fin cfg fi11))).1
noncomputable def lF11 : Ln PV := (Classical.choose (exT fi11 (fin cfg fi11))).2
theorem T11 : Tied cfg W fi11 (fin cfg fi11) jF11 lF11 := Classical.choose_spec (exT fi11 (fin cfg fi11))
theorem e_roadbooklaw03_awake  : wc W n_roadbooklaw03_awake [] =
  (((wc W n_roadbooklaw03_Three [])).bind (fun v1 => (c_g_s0_s0 v1 (fun v2 v3 => (((wc W n_bag_Group [(PV.agg [(PV.slice 0 v2), (PV.slice 0 v3)]), (PV.int .i64 (0 : Int)), (PV.slice 0 [(PV.int .i64 (1 : Int))])])).bind (fun v4 => (((PV.asTup v4)).bind (fun v5 => (((v5)[0]?).bind (fun v6 => (c_g_s0_s0 v6 (fun v7 v8 => (((PV.asTup v4)).bind (fun v9 => (((v9)[1]?).bind (fun v10 => (c_b v10 (fun v11 => (((wc W n_roadbooklaw03_Three [])).bind (fun v12 => (c_g_s0_s0 v12 (fun v13 v14 => (((wc W n_bag_May [(PV.agg [(PV.slice 0 v13), (PV.slice 0 v14)])])).bind (fun v15 => (c_b v15 (fun v16 => (bif v16 then (bif v11 then (((wc W n_roadbookref03_Like [(PV.agg [(PV.slice 0 v7), (PV.slice 0 v8)]), (PV.agg [(PV.slice 0 [(PV.int .i64 (0 : Int)), (PV.int .i64 (16 : Int)), (PV.int .i64 (17 : Int))]), (PV.slice 0 [(PV.slice 3 [(PV.agg [(PV.int .i64 (0 : Int)), (PV.int .i64 (1 : Int))]), (PV.agg [(PV.int .i64 (0 : Int)), (PV.int .i64 (2 : Int))]), (PV.agg [(PV.int .i64 (0 : Int)), (PV.int .i64 (7 : Int))])]), (PV.slice 3 [(PV.agg [(PV.int .i64 (0 : Int)), (PV.int .i64 (3 : Int))]), (PV.agg [(PV.int .i64 (0 : Int)), (PV.int .i64 (1 : Int))]), (PV.agg [(PV.int .i64 (0 : Int)), (PV.int .i64 (4 : Int))])])])])])).bind (fun v17 => (c_b v17 (fun v18 => (bif v18 then (((wc W n_roadbooklaw03_Three [])).bind (fun v19 => (c_g_s0_s0 v19 (fun v20 v21 => (((wc W n_bag_Sorted [(PV.agg [(PV.slice 0 v20), (PV.slice 0 v21)]), (PV.int .i64 (0 : Int))])).bind (fun v22 => (c_b v22 (fun v23 => (bif (!v23) then (((wc W n_roadbooklaw03_Three [])).bind (fun v24 => (c_g_s0_s0 v24 (fun v25 v26 => (((wc W n_bag_Sort [(PV.agg [(PV.slice 0 v25), (PV.slice 0 v26)]), (PV.int .i64 (0 : Int))])).bind (fun v27 => (c_g_s0_s0 v27 (fun v28 v29 => (((wc W n_bag_Sorted [(PV.agg [(PV.slice 0 v28), (PV.slice 0 v29)]), (PV.int .i64 (0 : Int))])).bind (fun v30 => (c_b v30 (fun v31 => (some (PV.bool v31)))))))))))))) else (some (PV.bool false))))))))))) else (some (PV.bool false))))))) else (some (PV.bool false))) else (some (PV.bool false))))))))))))))))))))))))))))) := go (by kernel_rfl) (by kernel_rfl) T11 (by kernel_rfl)
noncomputable def jF12 : Jn PV := (Classical.choose (exT fi12 (fin cfg fi12))).1
noncomputable def lF12 : Ln PV := (Classical.choose (exT fi12 (fin cfg fi12))).2
theorem T12 : Tied cfg W fi12 (fin cfg fi12) jF12 lF12 := Classical.choose_spec (exT fi12 (fin cfg fi12))
noncomputable def J_roadbooklaw03_few_1 (l1 : List PV) (l2 : List PV) : Option PV := jF12 [1, 1] (St.mk [(2, (AV.pv (PV.imm 3 (PV.agg [(PV.slice 0 l1), (PV.slice 0 l2)]) 0)))] [])
noncomputable def L_roadbooklaw03_few_2 (l3 : List PV) (l4 : List PV) (i5 : Int) : Option PV := lF12 [0, 1, 0, 1, 1] 0 (St.mk [(2, (AV.pv (PV.imm 3 (PV.agg [(PV.slice 0 l3), (PV.slice 0 l4)]) 0))), (5, (AV.pv (PV.int .i64 i5)))] [])
theorem J_roadbooklaw03_few_1_eq (l1 : List PV) (l2 : List PV) : J_roadbooklaw03_few_1 l1 l2 =
  (L_roadbooklaw03_few_2 l1 l2 (0 : Int)) := (T12.join [1, 1] _).trans (by kernel_rfl)
theorem L_roadbooklaw03_few_2_eq (l3 : List PV) (l4 : List PV) (i5 : Int) : L_roadbooklaw03_few_2 l3 l4 i5 =
  (bif (decide (i5 < (((List.length l4) : Nat) : Int))) then (bif (decide ((0 : Int) ≤ i5)) then (((l4)[(Int.toNat i5)]?).bind (fun v6 => (c_s3 v6 (fun v7 => (bif (decide (GT.gt (((List.length v7) : Nat) : Int) (20 : Int))) then (some (PV.bool false)) else (L_roadbooklaw03_few_2 l3 l4 (IntKind.wrap .i64 (i5 + (1 : Int) : Int)))))))) else none) else (some (PV.bool true))) := (T12.loop [1, 1, 0, 1, 0] 0 _ rfl).trans (by kernel_rfl)
theorem e_roadbooklaw03_few (a0_0 : List PV) (a0_1 : List PV) (a1 : Int) : wc W n_roadbooklaw03_few [(PV.agg [(PV.slice 0 a0_0), (PV.slice 0 a0_1)]), (PV.int .i64 a1)] =
  (bif (decide (GT.gt (((List.length a0_1) : Nat) : Int) a1)) then (some (PV.bool false)) else (bif (decide (GT.gt (((List.length a0_0) : Nat) : Int) (20 : Int))) then (some (PV.bool false)) else (J_roadbooklaw03_few_1 a0_0 a0_1))) := go (by kernel_rfl) (by kernel_rfl) T12 (by kernel_rfl)
noncomputable def jF13 : Jn PV := (Classical.choose (exT fi13 (fin cfg fi13))).1
noncomputable def lF13 : Ln PV := (Classical.choose (exT fi13 (fin cfg fi13))).2
theorem T13 : Tied cfg W fi13 (fin cfg fi13) jF13 lF13 := Classical.choose_spec (exT fi13 (fin cfg fi13))
noncomputable def L_roadbooklaw03_light_1 (l1 : List PV) (b2 : Bool) (i3 : Int) : Option PV := lF13 [0, 1, 0, 1, 1] 0 (St.mk [(0, (AV.pv (PV.slice 6 l1))), (3, (AV.pv (PV.bool b2))), (4, (AV.pv (PV.int .i64 i3)))] [])
noncomputable def J_roadbooklaw03_light_2 (l4 : List PV) (i5 : Int) : Option PV := jF13 [1, 0, 0, 1, 0, 1, 1] (St.mk [(0, (AV.pv (PV.slice 6 l4))), (4, (AV.pv (PV.int .i64 i5)))] [])
theorem L_roadbooklaw03_light_1_eq (l1 : List PV) (b2 : Bool) (i3 : Int) : L_roadbooklaw03_light_1 l1 b2 i3 =
  (bif (decide (i3 < (((List.length l1) : Nat) : Int))) then (bif b2 then (J_roadbooklaw03_light_2 l1 i3) else (some (PV.bool b2))) else (some (PV.bool b2))) := (T13.loop [1, 1, 0, 1, 0] 0 _ rfl).trans (by kernel_rfl)
theorem J_roadbooklaw03_light_2_eq (l4 : List PV) (i5 : Int) : J_roadbooklaw03_light_2 l4 i5 =
  (bif (decide ((0 : Int) ≤ i5)) then (((l4)[(Int.toNat i5)]?).bind (fun v6 => (c_g_i64_i64_i64_i64_s6 v6 (fun v7 v8 v9 v10 v11 => (((wc W n_roadbookref02_Few [(PV.agg [(PV.int .i64 v7), (PV.int .i64 v8), (PV.int .i64 v9), (PV.int .i64 v10), (PV.slice 6 v11)]), (PV.int .i64 (60 : Int))])).bind (fun v12 => (c_b v12 (fun v13 => (L_roadbooklaw03_light_1 l4 v13 (IntKind.wrap .i64 (i5 + (1 : Int) : Int))))))))))) else none) := (T13.join [1, 1, 0, 1, 0, 0, 1] _).trans (by kernel_rfl)
theorem e_roadbooklaw03_light (a0 : List PV) : wc W n_roadbooklaw03_light [(PV.slice 6 a0)] =
  (L_roadbooklaw03_light_1 a0 (decide ((((List.length a0) : Nat) : Int) ≤ (4 : Int))) (0 : Int)) := go (by kernel_rfl) (by kernel_rfl) T13 (by kernel_rfl)
noncomputable def jF14 : Jn PV := (Classical.choose (exT fi14 (fin cfg fi14))).1
noncomputable def lF14 : Ln PV := (Classical.choose (exT fi14 (fin cfg fi14))).2
theorem T14 : Tied cfg W fi14 (fin cfg fi14) jF14 lF14 := Classical.choose_spec (exT fi14 (fin cfg fi14))
noncomputable def J_bag_Pick_1 (l5 : List PV) (l6 : List PV) (l7 : List PV) : Option PV := jF14 [1, 1] (St.mk [(1, (AV.pv (PV.slice 0 l5))), (2, (AV.pv (PV.imm 3 (PV.agg [(PV.slice 0 l6), (PV.slice 0 l7)]) 0))), (4, (AV.own 0 0))] [(Ob.var false 3 (AV.agg [(AV.nil 0), (AV.nil 0)]))])
noncomputable def L_bag_Pick_2 (l8 : List PV) (l9 : List PV) (l10 : List PV) (l11 : List PV) (i12 : Int) (i13 : Int) (l14 : List PV) : Option PV := lF14 [0, 1, 0, 1, 1, 1] 2 (St.mk [(1, (AV.pv (PV.slice 0 l8))), (2, (AV.pv (PV.imm 3 (PV.agg [(PV.slice 0 l9), (PV.slice 0 l10)]) 0))), (4, (AV.own 0 0)), (6, (AV.view 1 0 none)), (26, (AV.pv (PV.slice 0 l11))), (27, (AV.pv (PV.int .i64 i12))), (28, (AV.pv (PV.int .i64 i13)))] [(Ob.var false 3 (AV.agg [(AV.nil 0), (AV.nil 0)])), (Ob.row false 0 0 l14)])
noncomputable def L_bag_Pick_3 (l21 : List PV) (i22 : Int) (i23 : Int) (l24 : List PV) (l25 : List PV) (l26 : List PV) (l27 : List PV) (l28 : List PV) : Option PV := lF14 [0, 1, 0, 1, 1, 1, 1, 1] 6 (St.mk [(4, (AV.own 0 0)), (6, (AV.view 1 0 none)), (10, (AV.own 4 0)), (48, (AV.pv (PV.slice 0 l21))), (49, (AV.pv (PV.int .i64 i22))), (50, (AV.pv (PV.int .i64 i23)))] [(Ob.var false 3 (AV.agg [(AV.nil 0), (AV.nil 0)])), (Ob.row false 0 0 l24), (Ob.row false 0 0 l25), (Ob.row false 0 0 l26), (Ob.var false 3 (AV.agg [(AV.pv (PV.slice 0 l27)), (AV.view 5 0 none)])), (Ob.row false 0 0 l28)])
noncomputable def L_bag_Pick_4 (l31 : List PV) (l32 : List PV) (i33 : Int) (i34 : Int) (i35 : Int) (i36 : Int) (l37 : List PV) (l38 : List PV) (l39 : List PV) (l40 : List PV) (l41 : List PV) (l42 : List PV) : Option PV := lF14 [0, 1, 0, 1, 1, 0, 0, 1, 1, 6, 0, 1, 0, 1, 1, 1, 1, 1] 7 (St.mk [(4, (AV.own 0 0)), (6, (AV.view 1 0 none)), (10, (AV.own 4 0)), (12, (AV.pv (PV.slice 3 l31))), (13, (AV.view 6 0 none)), (48, (AV.pv (PV.slice 0 l32))), (49, (AV.pv (PV.int .i64 i33))), (50, (AV.pv (PV.int .i64 i34))), (54, (AV.view 1 0 none)), (55, (AV.pv (PV.int .i64 i35))), (56, (AV.pv (PV.int .i64 i36)))] [(Ob.var false 3 (AV.agg [(AV.nil 0), (AV.nil 0)])), (Ob.row false 0 0 l37), (Ob.row false 0 0 l38), (Ob.row false 0 0 l39), (Ob.var false 3 (AV.agg [(AV.pv (PV.slice 0 l40)), (AV.view 5 0 none)])), (Ob.row false 0 0 l41), (Ob.row false 0 3 l42)])
theorem J_bag_Pick_1_eq (l5 : List PV) (l6 : List PV) (l7 : List PV) : J_bag_Pick_1 l5 l6 l7 =
  (L_bag_Pick_2 l5 l6 l7 l5 (((List.length l5) : Nat) : Int) (0 : Int) []) := (T14.join [1, 1] _).trans (by kernel_rfl)
theorem L_bag_Pick_2_eq (l8 : List PV) (l9 : List PV) (l10 : List PV) (l11 : List PV) (i12 : Int) (i13 : Int) (l14 : List PV) : L_bag_Pick_2 l8 l9 l10 l11 i12 i13 l14 =
  (bif (decide (i13 < i12)) then (bif (decide ((0 : Int) ≤ i13)) then (((l11)[(Int.toNat i13)]?).bind (fun v15 => (c_i64 v15 (fun v16 => (((wc W n_slices_Index_int_int [(PV.slice 0 l9), (PV.int .i64 v16)])).bind (fun v17 => (c_i64 v17 (fun v18 => (bif (decide (v18 < (0 : Int))) then (some (PV.tup [(PV.agg [(PV.slice 0 []), (PV.slice 0 [])]), (PV.bool false)])) else (bif (true && (decide (((List.length l14) + 1 : Nat) ≤ 4294967296))) then (L_bag_Pick_2 l8 l9 l10 l11 i12 (IntKind.wrap .i64 (i13 + (1 : Int) : Int)) (l14 ++ [(PV.int .i64 v18)])) else none)))))))))) else none) else (((wc W n_slices_Clone_int_int [(PV.slice 0 l8)])).bind (fun v19 => (c_s0 v19 (fun v20 => (L_bag_Pick_3 l10 (((List.length l10) : Nat) : Int) (0 : Int) l14 [] [] v20 [])))))) := (T14.loop [1, 1, 1, 0, 1, 0] 2 _ rfl).trans (by kernel_rfl)
theorem L_bag_Pick_3_eq (l21 : List PV) (i22 : Int) (i23 : Int) (l24 : List PV) (l25 : List PV) (l26 : List PV) (l27 : List PV) (l28 : List PV) : L_bag_Pick_3 l21 i22 i23 l24 l25 l26 l27 l28 =
  (bif (decide (i23 < i22)) then (bif (decide ((0 : Int) ≤ i23)) then (((l21)[(Int.toNat i23)]?).bind (fun v29 => (c_s3 v29 (fun v30 => (L_bag_Pick_4 v30 l21 i22 i23 (((List.length l24) : Nat) : Int) (0 : Int) l24 l25 l26 l27 l28 []))))) else none) else (some (PV.tup [(PV.agg [(PV.slice 0 l27), (PV.slice 0 l28)]), (PV.bool true)]))) := (T14.loop [1, 1, 1, 1, 1, 0, 1, 0] 6 _ rfl).trans (by kernel_rfl)
theorem L_bag_Pick_4_eq (l31 : List PV) (l32 : List PV) (i33 : Int) (i34 : Int) (i35 : Int) (i36 : Int) (l37 : List PV) (l38 : List PV) (l39 : List PV) (l40 : List PV) (l41 : List PV) (l42 : List PV) : L_bag_Pick_4 l31 l32 i33 i34 i35 i36 l37 l38 l39 l40 l41 l42 =
  (bif (decide (i36 < i35)) then (bif ((true && (decide ((0 : Int) ≤ i36))) && (decide (i36 < (((List.length l37) : Nat) : Int)))) then (((l37)[(0 + (Int.toNat i36) : Nat)]?).bind (fun v43 => (c_i64 v43 (fun v44 => (bif (decide ((0 : Int) ≤ v44)) then (((l31)[(Int.toNat v44)]?).bind (fun v45 => (c_g_i64_i64 v45 (fun v46 v47 => (bif (true && (decide (((List.length l42) + 1 : Nat) ≤ 4294967296))) then (L_bag_Pick_4 l31 l32 i33 i34 i35 (IntKind.wrap .i64 (i36 + (1 : Int) : Int)) l37 l38 l39 l40 l41 (l42 ++ [(PV.agg [(PV.int .i64 v46), (PV.int .i64 v47)])])) else none))))) else none))))) else none) else (bif (true && (decide (((List.length l41) + 1 : Nat) ≤ 4294967296))) then (L_bag_Pick_3 l32 i33 (IntKind.wrap .i64 (i34 + (1 : Int) : Int)) l37 l38 l39 l40 (l41 ++ [(PV.slice 3 l42)])) else none)) := (T14.loop [1, 1, 1, 1, 1, 0, 1, 0, 6, 1, 1, 0, 0, 1, 1, 0, 1, 0] 7 _ rfl).trans (by kernel_rfl)
theorem e_bag_Pick (a0_0 : List PV) (a0_1 : List PV) (a1 : List PV) : wc W n_bag_Pick [(PV.agg [(PV.slice 0 a0_0), (PV.slice 0 a0_1)]), (PV.slice 0 a1)] =
  (((wc W n_bag_May [(PV.agg [(PV.slice 0 a0_0), (PV.slice 0 a0_1)])])).bind (fun v1 => (c_b v1 (fun v2 => (bif (!v2) then (some (PV.tup [(PV.agg [(PV.slice 0 []), (PV.slice 0 [])]), (PV.bool false)])) else (((wc W n_bag_May [(PV.agg [(PV.slice 0 a1), (PV.slice 0 [])])])).bind (fun v3 => (c_b v3 (fun v4 => (bif (!v4) then (some (PV.tup [(PV.agg [(PV.slice 0 []), (PV.slice 0 [])]), (PV.bool false)])) else (J_bag_Pick_1 a1 a0_0 a0_1))))))))))) := go (by kernel_rfl) (by kernel_rfl) T14 (by kernel_rfl)
noncomputable def jF15 : Jn PV := (Classical.choose (exT fi15 (fin cfg fi15))).1
noncomputable def lF15 : Ln PV := (Classical.choose (exT fi15 (fin cfg fi15))).2
theorem T15 : Tied cfg W fi15 (fin cfg fi15) jF15 lF15 := Classical.choose_spec (exT fi15 (fin cfg fi15))
noncomputable def L_bag_May_1 (l1 : List PV) (l2 : List PV) (l3 : List PV) (i4 : Int) (i5 : Int) (b6 : Bool) (b7 : Bool) (b8 : Bool) (b9 : Bool) (b10 : Bool) (b11 : Bool) (b12 : Bool) (b13 : Bool) (b14 : Bool) (b15 : Bool) (b16 : Bool) (b17 : Bool) (b18 : Bool) (b19 : Bool) (b20 : Bool) (b21 : Bool) : Option PV := lF15 [0, 1, 0, 1, 1] 1 (St.mk [(1, (AV.pv (PV.imm 3 (PV.agg [(PV.slice 0 l1), (PV.slice 0 l2)]) 0))), (3, (AV.own 0 0)), (10, (AV.pv (PV.slice 0 l3))), (11, (AV.pv (PV.int .i64 i4))), (12, (AV.pv (PV.int .i64 i5)))] [(Ob.var false 17 (AV.pv (PV.agg [(PV.bool b6), (PV.bool b7), (PV.bool b8), (PV.bool b9), (PV.bool b10), (PV.bool b11), (PV.bool b12), (PV.bool b13), (PV.bool b14), (PV.bool b15), (PV.bool b16), (PV.bool b17), (PV.bool b18), (PV.bool b19), (PV.bool b20), (PV.bool b21)])))])
noncomputable def L_bag_May_2 (l26 : List PV) (l27 : List PV) (l28 : List PV) (i29 : Int) (i30 : Int) (b31 : Bool) (b32 : Bool) (b33 : Bool) (b34 : Bool) (b35 : Bool) (b36 : Bool) (b37 : Bool) (b38 : Bool) (b39 : Bool) (b40 : Bool) (b41 : Bool) (b42 : Bool) (b43 : Bool) (b44 : Bool) (b45 : Bool) (b46 : Bool) : Option PV := lF15 [0, 1, 0, 1, 1, 1, 1] 1 (St.mk [(1, (AV.pv (PV.imm 3 (PV.agg [(PV.slice 0 l26), (PV.slice 0 l27)]) 0))), (6, (AV.pv (PV.fn n_bag_May_1 [] []))), (31, (AV.pv (PV.slice 0 l28))), (32, (AV.pv (PV.int .i64 i29))), (33, (AV.pv (PV.int .i64 i30)))] [(Ob.var false 17 (AV.pv (PV.agg [(PV.bool b31), (PV.bool b32), (PV.bool b33), (PV.bool b34), (PV.bool b35), (PV.bool b36), (PV.bool b37), (PV.bool b38), (PV.bool b39), (PV.bool b40), (PV.bool b41), (PV.bool b42), (PV.bool b43), (PV.bool b44), (PV.bool b45), (PV.bool b46)])))])
theorem L_bag_May_1_eq (l1 : List PV) (l2 : List PV) (l3 : List PV) (i4 : Int) (i5 : Int) (b6 : Bool) (b7 : Bool) (b8 : Bool) (b9 : Bool) (b10 : Bool) (b11 : Bool) (b12 : Bool) (b13 : Bool) (b14 : Bool) (b15 : Bool) (b16 : Bool) (b17 : Bool) (b18 : Bool) (b19 : Bool) (b20 : Bool) (b21 : Bool) : L_bag_May_1 l1 l2 l3 i4 i5 b6 b7 b8 b9 b10 b11 b12 b13 b14 b15 b16 b17 b18 b19 b20 b21 =
  (bif (decide (i5 < i4)) then (bif (decide ((0 : Int) ≤ i5)) then (((l3)[(Int.toNat i5)]?).bind (fun v22 => (c_i64 v22 (fun v23 => (bif (decide (v23 < (0 : Int))) then (some (PV.bool false)) else (bif (decide (GT.gt v23 (15 : Int))) then (some (PV.bool false)) else (bif ((decide ((0 : Int) ≤ v23)) && (decide (v23 < (16 : Int)))) then (((PV.load 17 (PV.agg [(PV.bool b6), (PV.bool b7), (PV.bool b8), (PV.bool b9), (PV.bool b10), (PV.bool b11), (PV.bool b12), (PV.bool b13), (PV.bool b14), (PV.bool b15), (PV.bool b16), (PV.bool b17), (PV.bool b18), (PV.bool b19), (PV.bool b20), (PV.bool b21)]) (0 + ((Int.toNat v23) * 1 : Nat) : Nat) 0)).bind (fun v24 => (c_b v24 (fun v25 => (bif v25 then (some (PV.bool false)) else (bif ((decide ((0 : Int) ≤ v23)) && (decide (v23 < (16 : Int)))) then (bif ((decide (((0 + ((Int.toNat v23) * 1 : Nat) : Nat) + 1 : Nat) ≤ 16)) && true) then (L_bag_May_1 l1 l2 l3 i4 (IntKind.wrap .i64 (i5 + (1 : Int) : Int)) (bif (0 == (0 + ((Int.toNat v23) * 1 : Nat) : Nat)) then true else b6) (bif (1 == (0 + ((Int.toNat v23) * 1 : Nat) : Nat)) then true else b7) (bif (2 == (0 + ((Int.toNat v23) * 1 : Nat) : Nat)) then true else b8) (bif (3 == (0 + ((Int.toNat v23) * 1 : Nat) : Nat)) then true else b9) (bif (4 == (0 + ((Int.toNat v23) * 1 : Nat) : Nat)) then true else b10) (bif (5 == (0 + ((Int.toNat v23) * 1 : Nat) : Nat)) then true else b11) (bif (6 == (0 + ((Int.toNat v23) * 1 : Nat) : Nat)) then true else b12) (bif (7 == (0 + ((Int.toNat v23) * 1 : Nat) : Nat)) then true else b13) (bif (8 == (0 + ((Int.toNat v23) * 1 : Nat) : Nat)) then true else b14) (bif (9 == (0 + ((Int.toNat v23) * 1 : Nat) : Nat)) then true else b15) (bif (10 == (0 + ((Int.toNat v23) * 1 : Nat) : Nat)) then true else b16) (bif (11 == (0 + ((Int.toNat v23) * 1 : Nat) : Nat)) then true else b17) (bif (12 == (0 + ((Int.toNat v23) * 1 : Nat) : Nat)) then true else b18) (bif (13 == (0 + ((Int.toNat v23) * 1 : Nat) : Nat)) then true else b19) (bif (14 == (0 + ((Int.toNat v23) * 1 : Nat) : Nat)) then true else b20) (bif (15 == (0 + ((Int.toNat v23) * 1 : Nat) : Nat)) then true else b21)) else none) else none)))))) else none))))))) else none) else (L_bag_May_2 l1 l2 l2 (((List.length l2) : Nat) : Int) (0 : Int) b6 b7 b8 b9 b10 b11 b12 b13 b14 b15 b16 b17 b18 b19 b20 b21)) := (T15.loop [1, 1, 0, 1, 0] 1 _ rfl).trans (by kernel_rfl)
theorem L_bag_May_2_eq (l26 : List PV) (l27 : List PV) (l28 : List PV) (i29 : Int) (i30 : Int) (b31 : Bool) (b32 : Bool) (b33 : Bool) (b34 : Bool) (b35 : Bool) (b36 : Bool) (b37 : Bool) (b38 : Bool) (b39 : Bool) (b40 : Bool) (b41 : Bool) (b42 : Bool) (b43 : Bool) (b44 : Bool) (b45 : Bool) (b46 : Bool) : L_bag_May_2 l26 l27 l28 i29 i30 b31 b32 b33 b34 b35 b36 b37 b38 b39 b40 b41 b42 b43 b44 b45 b46 =
  (bif (decide (i30 < i29)) then (bif (decide ((0 : Int) ≤ i30)) then (((l28)[(Int.toNat i30)]?).bind (fun v47 => (c_s3 v47 (fun v48 => (bif ((((List.length v48) : Nat) : Int) != (((List.length l26) : Nat) : Int)) then (some (PV.bool false)) else (((wc W n_slices_ContainsFunc_api_Val_api_Val_c5fc [(PV.slice 3 v48), (PV.fn n_bag_May_1 [] [])])).bind (fun v49 => (c_b v49 (fun v50 => (bif v50 then (some (PV.bool false)) else (L_bag_May_2 l26 l27 l28 i29 (IntKind.wrap .i64 (i30 + (1 : Int) : Int)) b31 b32 b33 b34 b35 b36 b37 b38 b39 b40 b41 b42 b43 b44 b45 b46))))))))))) else none) else (some (PV.bool (decide ((((List.length l27) : Nat) : Int) ≤ (5000 : Int)))))) := (T15.loop [1, 1, 1, 1, 0, 1, 0] 1 _ rfl).trans (by kernel_rfl)
theorem e_bag_May (a0_0 : List PV) (a0_1 : List PV) : wc W n_bag_May [(PV.agg [(PV.slice 0 a0_0), (PV.slice 0 a0_1)])] =
  (L_bag_May_1 a0_0 a0_1 a0_0 (((List.length a0_0) : Nat) : Int) (0 : Int) false false false false false false false false false false false false false false false false) := go (by kernel_rfl) (by kernel_rfl) T15 (by kernel_rfl)
end Go.Cf

namespace Go.Cf
open Go Go.Ab
set_option linter.unusedVariables false
set_option maxRecDepth 100000
noncomputable def jF16 : Jn PV := (Classical.choose (exT fi16 (fin cfg fi16))).1
noncomputable def lF16 : Ln PV := (Classical.choose (exT fi16 (fin cfg fi16))).2
theorem T16 : Tied cfg W fi16 (fin cfg fi16) jF16 lF16 := Classical.choose_spec (exT fi16 (fin cfg fi16))
theorem e_expr_Cols (a0_0 : Int) (a0_1 : Int) (a0_2 : Int) (a0_3 : Int) (a0_4 : List PV) : wc W n_expr_Cols [(PV.agg [(PV.int .i64 a0_0), (PV.int .i64 a0_1), (PV.int .i64 a0_2), (PV.int .i64 a0_3), (PV.slice 6 a0_4)])] =
  (((wc W n_expr_May [(PV.agg [(PV.int .i64 a0_0), (PV.int .i64 a0_1), (PV.int .i64 a0_2), (PV.int .i64 a0_3), (PV.slice 6 a0_4)])])).bind (fun v1 => (c_b v1 (fun v2 => (bif (!v2) then (some (PV.slice 0 [])) else (((W n_expr_each false [(AV.pv (PV.agg [(PV.int .i64 a0_0), (PV.int .i64 a0_1), (PV.int .i64 a0_2), (PV.int .i64 a0_3), (PV.slice 6 a0_4)])), (AV.pv (PV.int .i64 (1 : Int))), (AV.fnv n_expr_Cols_1 [] [(AV.own 0 0)])] [(Ob.var false 0 (AV.view 1 0 none)), (Ob.row false 0 0 [])])).bind (fun v10 => (k_b2223f v10 (fun v11 v12 => (c_b v11 (fun v13 => (((W n_slices_Sort_int_int false [(AV.fx 0 0)] [(Ob.fix 0 0 v12)])).bind (fun v15 => (k_cad770 v15 (fun v16 v17 => (((W n_slices_Compact_int_int false [(AV.view 0 0 none)] [(Ob.row false 0 0 v17)])).bind (fun v19 => (k_b7636c v19 (fun v20 => (c_s0 v20 (fun v21 => (some (PV.slice 0 v21))))))))))))))))))))))) := go (by kernel_rfl) (by kernel_rfl) T16 (by kernel_rfl)
noncomputable def jF17 : Jn PV := (Classical.choose (exT fi17 (fin cfg fi17))).1
noncomputable def lF17 : Ln PV := (Classical.choose (exT fi17 (fin cfg fi17))).2
theorem T17 : Tied cfg W fi17 (fin cfg fi17) jF17 lF17 := Classical.choose_spec (exT fi17 (fin cfg fi17))
noncomputable def L_roadbookref03_Place_1 (l1 : List PV) (i2 : Int) (i3 : Int) : Option PV := lF17 [0, 1, 0, 1] 0 (St.mk [(0, (AV.pv (PV.slice 0 l1))), (1, (AV.pv (PV.int .i64 i2))), (5, (AV.pv (PV.int .i64 i3)))] [])
theorem L_roadbookref03_Place_1_eq (l1 : List PV) (i2 : Int) (i3 : Int) : L_roadbookref03_Place_1 l1 i2 i3 =
  (bif (decide (i3 < (((List.length l1) : Nat) : Int))) then (bif (decide ((0 : Int) ≤ i3)) then (((l1)[(Int.toNat i3)]?).bind (fun v4 => (c_i64 v4 (fun v5 => (bif (v5 == i2) then (some (PV.int .i64 i3)) else (L_roadbookref03_Place_1 l1 i2 (IntKind.wrap .i64 (i3 + (1 : Int) : Int)))))))) else none) else (some (PV.int .i64 (-1 : Int)))) := (T17.loop [1, 0, 1, 0] 0 _ rfl).trans (by kernel_rfl)
theorem e_roadbookref03_Place (a0 : List PV) (a1 : Int) : wc W n_roadbookref03_Place [(PV.slice 0 a0), (PV.int .i64 a1)] =
  (L_roadbookref03_Place_1 a0 a1 (0 : Int)) := go (by kernel_rfl) (by kernel_rfl) T17 (by kernel_rfl)
noncomputable def jF18 : Jn PV := (Classical.choose (exT fi18 (fin cfg fi18))).1
noncomputable def lF18 : Ln PV := (Classical.choose (exT fi18 (fin cfg fi18))).2
theorem T18 : Tied cfg W fi18 (fin cfg fi18) jF18 lF18 := Classical.choose_spec (exT fi18 (fin cfg fi18))
theorem e_bag_Keep (a0_0 : List PV) (a0_1 : List PV) (a1 : List PV) : wc W n_bag_Keep [(PV.agg [(PV.slice 0 a0_0), (PV.slice 0 a0_1)]), (PV.slice 6 a1)] =
  (((wc W n_bag_some [(PV.agg [(PV.slice 0 a0_0), (PV.slice 0 a0_1)]), (PV.fn n_bag_Keep_1 [] [(PV.imm 0 (PV.slice 6 a1) 0), (PV.imm 3 (PV.agg [(PV.slice 0 a0_0), (PV.slice 0 a0_1)]) 0)])])).bind (fun v1 => (c_g_s0_s0 v1 (fun v2 v3 => (some (PV.agg [(PV.slice 0 v2), (PV.slice 0 v3)])))))) := go (by kernel_rfl) (by kernel_rfl) T18 (by kernel_rfl)
noncomputable def jF19 : Jn PV := (Classical.choose (exT fi19 (fin cfg fi19))).1
noncomputable def lF19 : Ln PV := (Classical.choose (exT fi19 (fin cfg fi19))).2
theorem T19 : Tied cfg W fi19 (fin cfg fi19) jF19 lF19 := Classical.choose_spec (exT fi19 (fin cfg fi19))
noncomputable def J_bag_Cross_1 (l9 : List PV) (l10 : List PV) (l11 : List PV) (l12 : List PV) (l13 : List PV) (l14 : List PV) (l15 : List PV) (l16 : List PV) : Option PV := jF19 [1, 1, 1] (St.mk [(2, (AV.pv (PV.imm 3 (PV.agg [(PV.slice 0 l9), (PV.slice 0 l10)]) 0))), (3, (AV.pv (PV.imm 3 (PV.agg [(PV.slice 0 l11), (PV.slice 0 l12)]) 0))), (4, (AV.own 0 0)), (6, (AV.own 3 0))] [(Ob.var false 3 (AV.agg [(AV.nil 0), (AV.nil 0)])), (Ob.row false 0 0 l13), (Ob.row false 0 0 l14), (Ob.var false 3 (AV.agg [(AV.pv (PV.slice 0 l15)), (AV.view 4 0 none)])), (Ob.row true 0 0 l16)])
noncomputable def L_bag_Cross_2 (l17 : List PV) (l18 : List PV) (l19 : List PV) (i20 : Int) (i21 : Int) (l22 : List PV) (l23 : List PV) (l24 : List PV) (l25 : List PV) : Option PV := lF19 [0, 1, 0, 1, 1, 1] 5 (St.mk [(3, (AV.pv (PV.imm 3 (PV.agg [(PV.slice 0 l17), (PV.slice 0 l18)]) 0))), (4, (AV.own 0 0)), (6, (AV.own 3 0)), (45, (AV.pv (PV.slice 0 l19))), (46, (AV.pv (PV.int .i64 i20))), (47, (AV.pv (PV.int .i64 i21)))] [(Ob.var false 3 (AV.agg [(AV.nil 0), (AV.nil 0)])), (Ob.row false 0 0 l22), (Ob.row false 0 0 l23), (Ob.var false 3 (AV.agg [(AV.pv (PV.slice 0 l24)), (AV.view 4 0 none)])), (Ob.row true 0 0 l25)])
noncomputable def L_bag_Cross_3 (l28 : List PV) (l29 : List PV) (l30 : List PV) (l31 : List PV) (i32 : Int) (i33 : Int) (l34 : List PV) (i35 : Int) (i36 : Int) (l37 : List PV) (l38 : List PV) (l39 : List PV) (l40 : List PV) : Option PV := lF19 [0, 1, 1, 0, 0, 1, 1, 5, 0, 1, 0, 1, 1, 1] 5 (St.mk [(3, (AV.pv (PV.imm 3 (PV.agg [(PV.slice 0 l28), (PV.slice 0 l29)]) 0))), (4, (AV.own 0 0)), (6, (AV.own 3 0)), (8, (AV.pv (PV.slice 3 l30))), (45, (AV.pv (PV.slice 0 l31))), (46, (AV.pv (PV.int .i64 i32))), (47, (AV.pv (PV.int .i64 i33))), (52, (AV.pv (PV.slice 0 l34))), (53, (AV.pv (PV.int .i64 i35))), (54, (AV.pv (PV.int .i64 i36)))] [(Ob.var false 3 (AV.agg [(AV.nil 0), (AV.nil 0)])), (Ob.row false 0 0 l37), (Ob.row false 0 0 l38), (Ob.var false 3 (AV.agg [(AV.pv (PV.slice 0 l39)), (AV.view 4 0 none)])), (Ob.row true 0 0 l40)])
theorem J_bag_Cross_1_eq (l9 : List PV) (l10 : List PV) (l11 : List PV) (l12 : List PV) (l13 : List PV) (l14 : List PV) (l15 : List PV) (l16 : List PV) : J_bag_Cross_1 l9 l10 l11 l12 l13 l14 l15 l16 =
  (L_bag_Cross_2 l11 l12 l10 (((List.length l10) : Nat) : Int) (0 : Int) l13 l14 l15 l16) := (T19.join [1, 1, 1] _).trans (by kernel_rfl)
theorem L_bag_Cross_2_eq (l17 : List PV) (l18 : List PV) (l19 : List PV) (i20 : Int) (i21 : Int) (l22 : List PV) (l23 : List PV) (l24 : List PV) (l25 : List PV) : L_bag_Cross_2 l17 l18 l19 i20 i21 l22 l23 l24 l25 =
  (bif (decide (i21 < i20)) then (bif (decide ((0 : Int) ≤ i21)) then (((l19)[(Int.toNat i21)]?).bind (fun v26 => (c_s3 v26 (fun v27 => (L_bag_Cross_3 l17 l18 v27 l19 i20 i21 l18 (((List.length l18) : Nat) : Int) (0 : Int) l22 l23 l24 l25))))) else none) else (some (PV.tup [(PV.agg [(PV.slice 0 l24), (PV.slice 0 l25)]), (PV.bool true)]))) := (T19.loop [1, 1, 1, 0, 1, 0] 5 _ rfl).trans (by kernel_rfl)
theorem L_bag_Cross_3_eq (l28 : List PV) (l29 : List PV) (l30 : List PV) (l31 : List PV) (i32 : Int) (i33 : Int) (l34 : List PV) (i35 : Int) (i36 : Int) (l37 : List PV) (l38 : List PV) (l39 : List PV) (l40 : List PV) : L_bag_Cross_3 l28 l29 l30 l31 i32 i33 l34 i35 i36 l37 l38 l39 l40 =
  (bif (decide (i36 < i35)) then (bif (decide ((0 : Int) ≤ i36)) then (((l34)[(Int.toNat i36)]?).bind (fun v41 => (c_s3 v41 (fun v42 => (((wc W n_slices_Concat_api_Val_api_Val [(PV.slice 0 [(PV.slice 3 l30), (PV.slice 3 v42)])])).bind (fun v43 => (c_s3 v43 (fun v44 => (bif (true && (decide (((List.length l40) + 1 : Nat) ≤ 4294967296))) then (L_bag_Cross_3 l28 l29 l30 l31 i32 i33 l34 i35 (IntKind.wrap .i64 (i36 + (1 : Int) : Int)) l37 l38 l39 (l40 ++ [(PV.slice 3 v44)])) else none))))))))) else none) else (L_bag_Cross_2 l28 l29 l31 i32 (IntKind.wrap .i64 (i33 + (1 : Int) : Int)) l37 l38 l39 l40)) := (T19.loop [1, 1, 1, 0, 1, 0, 5, 1, 1, 0, 0, 1, 1, 0] 5 _ rfl).trans (by kernel_rfl)
theorem e_bag_Cross (a0_0 : List PV) (a0_1 : List PV) (a1_0 : List PV) (a1_1 : List PV) : wc W n_bag_Cross [(PV.agg [(PV.slice 0 a0_0), (PV.slice 0 a0_1)]), (PV.agg [(PV.slice 0 a1_0), (PV.slice 0 a1_1)])] =
  (((wc W n_slices_Concat_int_int [(PV.slice 0 [(PV.slice 0 a0_0), (PV.slice 0 a1_0)])])).bind (fun v1 => (c_s0 v1 (fun v2 => (((wc W n_bag_May [(PV.agg [(PV.slice 0 a0_0), (PV.slice 0 a0_1)])])).bind (fun v3 => (c_b v3 (fun v4 => (bif (!v4) then (some (PV.tup [(PV.agg [(PV.slice 0 []), (PV.slice 0 [])]), (PV.bool false)])) else (((wc W n_bag_May [(PV.agg [(PV.slice 0 a1_0), (PV.slice 0 a1_1)])])).bind (fun v5 => (c_b v5 (fun v6 => (bif (!v6) then (some (PV.tup [(PV.agg [(PV.slice 0 []), (PV.slice 0 [])]), (PV.bool false)])) else (((wc W n_bag_May [(PV.agg [(PV.slice 0 v2), (PV.slice 0 [])])])).bind (fun v7 => (c_b v7 (fun v8 => (bif (!v8) then (some (PV.tup [(PV.agg [(PV.slice 0 []), (PV.slice 0 [])]), (PV.bool false)])) else (bif (decide (GT.gt (IntKind.wrap .i64 ((((List.length a0_1) : Nat) : Int) * (((List.length a1_1) : Nat) : Int) : Int)) (5000 : Int))) then (some (PV.tup [(PV.agg [(PV.slice 0 []), (PV.slice 0 [])]), (PV.bool false)])) else (J_bag_Cross_1 a0_0 a0_1 a1_0 a1_1 [] [] v2 []))))))))))))))))))))) := go (by kernel_rfl) (by kernel_rfl) T19 (by kernel_rfl)
noncomputable def jF30 : Jn PV := (Classical.choose (exT fi30 (fin cfg fi30))).1
noncomputable def lF30 : Ln PV := (Classical.choose (exT fi30 (fin cfg fi30))).2
theorem T30 : Tied cfg W fi30 (fin cfg fi30) jF30 lF30 := Classical.choose_spec (exT fi30 (fin cfg fi30))
noncomputable def L_roadbookref02_Ints_1 (l1 : List PV) (l2 : List PV) (i3 : Int) : Option PV := lF30 [0, 1, 0, 1, 1] 0 (St.mk [(0, (AV.pv (PV.slice 0 l1))), (1, (AV.pv (PV.slice 0 l2))), (5, (AV.pv (PV.int .i64 i3)))] [])
theorem L_roadbookref02_Ints_1_eq (l1 : List PV) (l2 : List PV) (i3 : Int) : L_roadbookref02_Ints_1 l1 l2 i3 =
  (bif (decide (i3 < (((List.length l1) : Nat) : Int))) then (bif (decide ((0 : Int) ≤ i3)) then (((l1)[(Int.toNat i3)]?).bind (fun v4 => (c_i64 v4 (fun v5 => (bif (decide ((0 : Int) ≤ i3)) then (((l2)[(Int.toNat i3)]?).bind (fun v6 => (c_i64 v6 (fun v7 => (bif (v5 != v7) then (some (PV.bool false)) else (L_roadbookref02_Ints_1 l1 l2 (IntKind.wrap .i64 (i3 + (1 : Int) : Int)))))))) else none))))) else none) else (some (PV.bool true))) := (T30.loop [1, 1, 0, 1, 0] 0 _ rfl).trans (by kernel_rfl)
theorem e_roadbookref02_Ints (a0 : List PV) (a1 : List PV) : wc W n_roadbookref02_Ints [(PV.slice 0 a0), (PV.slice 0 a1)] =
  (bif ((((List.length a0) : Nat) : Int) != (((List.length a1) : Nat) : Int)) then (some (PV.bool false)) else (L_roadbookref02_Ints_1 a0 a1 (0 : Int))) := go (by kernel_rfl) (by kernel_rfl) T30 (by kernel_rfl)
noncomputable def jF31 : Jn PV := (Classical.choose (exT fi31 (fin cfg fi31))).1
noncomputable def lF31 : Ln PV := (Classical.choose (exT fi31 (fin cfg fi31))).2
theorem T31 : Tied cfg W fi31 (fin cfg fi31) jF31 lF31 := Classical.choose_spec (exT fi31 (fin cfg fi31))
noncomputable def L_roadbookref03_Row_1 (l1 : List PV) (l2 : List PV) (i3 : Int) : Option PV := lF31 [0, 1, 0, 1, 1] 0 (St.mk [(0, (AV.pv (PV.slice 3 l1))), (1, (AV.pv (PV.slice 3 l2))), (5, (AV.pv (PV.int .i64 i3)))] [])
theorem L_roadbookref03_Row_1_eq (l1 : List PV) (l2 : List PV) (i3 : Int) : L_roadbookref03_Row_1 l1 l2 i3 =
  (bif (decide (i3 < (((List.length l1) : Nat) : Int))) then (bif (decide ((0 : Int) ≤ i3)) then (((l1)[(Int.toNat i3)]?).bind (fun v4 => (c_g_i64_i64 v4 (fun v5 v6 => (bif (decide ((0 : Int) ≤ i3)) then (((l2)[(Int.toNat i3)]?).bind (fun v7 => (c_g_i64_i64 v7 (fun v8 v9 => (((((bif (v5 == v8) then (bif (v6 == v9) then (some true) else (some false)) else (some false))).bind (fun v10 => (some (PV.bool (!v10)))))).bind (fun v11 => (c_b v11 (fun v12 => (bif v12 then (some (PV.bool false)) else (L_roadbookref03_Row_1 l1 l2 (IntKind.wrap .i64 (i3 + (1 : Int) : Int)))))))))))) else none))))) else none) else (some (PV.bool true))) := (T31.loop [1, 1, 0, 1, 0] 0 _ rfl).trans (by kernel_rfl)
theorem e_roadbookref03_Row (a0 : List PV) (a1 : List PV) : wc W n_roadbookref03_Row [(PV.slice 3 a0), (PV.slice 3 a1)] =
  (bif ((((List.length a0) : Nat) : Int) != (((List.length a1) : Nat) : Int)) then (some (PV.bool false)) else (L_roadbookref03_Row_1 a0 a1 (0 : Int))) := go (by kernel_rfl) (by kernel_rfl) T31 (by kernel_rfl)
noncomputable def jF36 : Jn PV := (Classical.choose (exT fi36 (fin cfg fi36))).1
noncomputable def lF36 : Ln PV := (Classical.choose (exT fi36 (fin cfg fi36))).2
theorem T36 : Tied cfg W fi36 (fin cfg fi36) jF36 lF36 := Classical.choose_spec (exT fi36 (fin cfg fi36))
theorem e_roadbookref02_Few (a0_0 : Int) (a0_1 : Int) (a0_2 : Int) (a0_3 : Int) (a0_4 : List PV) (a1 : Int) : wc W n_roadbookref02_Few [(PV.agg [(PV.int .i64 a0_0), (PV.int .i64 a0_1), (PV.int .i64 a0_2), (PV.int .i64 a0_3), (PV.slice 6 a0_4)]), (PV.int .i64 a1)] =
  (((wc W n_roadbookref02_size [(PV.agg [(PV.int .i64 a0_0), (PV.int .i64 a0_1), (PV.int .i64 a0_2), (PV.int .i64 a0_3), (PV.slice 6 a0_4)]), (PV.int .i64 a1)])).bind (fun v1 => (c_i64 v1 (fun v2 => (some (PV.bool (decide (v2 ≤ a1)))))))) := go (by kernel_rfl) (by kernel_rfl) T36 (by kernel_rfl)
noncomputable def jF37 : Jn PV := (Classical.choose (exT fi37 (fin cfg fi37))).1
noncomputable def lF37 : Ln PV := (Classical.choose (exT fi37 (fin cfg fi37))).2
theorem T37 : Tied cfg W fi37 (fin cfg fi37) jF37 lF37 := Classical.choose_spec (exT fi37 (fin cfg fi37))
noncomputable def L_slices_Index_int_int_1 (l1 : List PV) (i2 : Int) (i3 : Int) (i4 : Int) : Option PV := lF37 [0, 1, 0, 1] 0 (St.mk [(0, (AV.pv (PV.slice 0 l1))), (1, (AV.pv (PV.int .i64 i2))), (7, (AV.pv (PV.int .i64 i3))), (8, (AV.pv (PV.int .i64 i4)))] [])
theorem L_slices_Index_int_int_1_eq (l1 : List PV) (i2 : Int) (i3 : Int) (i4 : Int) : L_slices_Index_int_int_1 l1 i2 i3 i4 =
  (bif (decide (i4 < i3)) then (bif (decide ((0 : Int) ≤ i4)) then (((l1)[(Int.toNat i4)]?).bind (fun v5 => (c_i64 v5 (fun v6 => (bif (i2 == v6) then (some (PV.int .i64 i4)) else (L_slices_Index_int_int_1 l1 i2 i3 (IntKind.wrap .i64 (i4 + (1 : Int) : Int)))))))) else none) else (some (PV.int .i64 (-1 : Int)))) := (T37.loop [1, 0, 1, 0] 0 _ rfl).trans (by kernel_rfl)
theorem e_slices_Index_int_int (a0 : List PV) (a1 : Int) : wc W n_slices_Index_int_int [(PV.slice 0 a0), (PV.int .i64 a1)] =
  (L_slices_Index_int_int_1 a0 a1 (((List.length a0) : Nat) : Int) (0 : Int)) := go (by kernel_rfl) (by kernel_rfl) T37 (by kernel_rfl)
noncomputable def jF39 : Jn PV := (Classical.choose (exT fi39 (fin cfg fi39))).1
noncomputable def lF39 : Ln PV := (Classical.choose (exT fi39 (fin cfg fi39))).2
theorem T39 : Tied cfg W fi39 (fin cfg fi39) jF39 lF39 := Classical.choose_spec (exT fi39 (fin cfg fi39))
theorem e_bag_May_1 (a0_0 : Int) (a0_1 : Int) : wc W n_bag_May_1 [(PV.agg [(PV.int .i64 a0_0), (PV.int .i64 a0_1)])] =
  (((wc W n_val_May [(PV.agg [(PV.int .i64 a0_0), (PV.int .i64 a0_1)])])).bind (fun v1 => (c_b v1 (fun v2 => (some (PV.bool (!v2))))))) := go (by kernel_rfl) (by kernel_rfl) T39 (by kernel_rfl)
noncomputable def jF40 : Jn PV := (Classical.choose (exT fi40 (fin cfg fi40))).1
noncomputable def lF40 : Ln PV := (Classical.choose (exT fi40 (fin cfg fi40))).2
theorem T40 : Tied cfg W fi40 (fin cfg fi40) jF40 lF40 := Classical.choose_spec (exT fi40 (fin cfg fi40))
theorem e_val_May (a0_0 : Int) (a0_1 : Int) : wc W n_val_May [(PV.agg [(PV.int .i64 a0_0), (PV.int .i64 a0_1)])] =
  (bif (decide (GE.ge a0_0 (0 : Int))) then (bif (decide (a0_0 < (3 : Int))) then (bif (a0_0 == (0 : Int)) then (some (PV.bool true)) else (some (PV.bool (a0_1 == (0 : Int))))) else (some (PV.bool false))) else (some (PV.bool false))) := go (by kernel_rfl) (by kernel_rfl) T40 (by kernel_rfl)
noncomputable def jF41 : Jn PV := (Classical.choose (exT fi41 (fin cfg fi41))).1
noncomputable def lF41 : Ln PV := (Classical.choose (exT fi41 (fin cfg fi41))).2
theorem T41 : Tied cfg W fi41 (fin cfg fi41) jF41 lF41 := Classical.choose_spec (exT fi41 (fin cfg fi41))
theorem e_slices_ContainsFunc_api_Val_api_Val_c5fc (a0 : List PV) (a1 : PV) : wc W n_slices_ContainsFunc_api_Val_api_Val_c5fc [(PV.slice 3 a0), a1] =
  (((wc W n_slices_IndexFunc_api_Val_api_Val_b1f6 [(PV.slice 3 a0), a1])).bind (fun v1 => (c_i64 v1 (fun v2 => (some (PV.bool (decide (GE.ge v2 (0 : Int))))))))) := go (by kernel_rfl) (by kernel_rfl) T41 (by kernel_rfl)
noncomputable def jF42 : Jn PV := (Classical.choose (exT fi42 (fin cfg fi42))).1
noncomputable def lF42 : Ln PV := (Classical.choose (exT fi42 (fin cfg fi42))).2
theorem T42 : Tied cfg W fi42 (fin cfg fi42) jF42 lF42 := Classical.choose_spec (exT fi42 (fin cfg fi42))
theorem e_expr_May (a0_0 : Int) (a0_1 : Int) (a0_2 : Int) (a0_3 : Int) (a0_4 : List PV) : wc W n_expr_May [(PV.agg [(PV.int .i64 a0_0), (PV.int .i64 a0_1), (PV.int .i64 a0_2), (PV.int .i64 a0_3), (PV.slice 6 a0_4)])] =
  (((W n_expr_each false [(AV.pv (PV.agg [(PV.int .i64 a0_0), (PV.int .i64 a0_1), (PV.int .i64 a0_2), (PV.int .i64 a0_3), (PV.slice 6 a0_4)])), (AV.pv (PV.int .i64 (1 : Int))), (AV.fnv n_expr_May_1 [] [(AV.own 0 0)])] [(Ob.var false 0 (AV.pv (PV.int .i64 (0 : Int))))])).bind (fun v8 => (k_5b106d v8 (fun v9 v10 => (c_b v9 (fun v11 => (some (PV.bool v11)))))))) := go (by kernel_rfl) (by kernel_rfl) T42 (by kernel_rfl)
noncomputable def jF43 : Jn PV := (Classical.choose (exT fi43 (fin cfg fi43))).1
noncomputable def lF43 : Ln PV := (Classical.choose (exT fi43 (fin cfg fi43))).2
theorem T43 : Tied cfg W fi43 (fin cfg fi43) jF43 lF43 := Classical.choose_spec (exT fi43 (fin cfg fi43))
noncomputable def L_expr_each_1 (i4 : Int) (p5 : PV) (l6 : List PV) (i7 : Int) (i8 : Int) : Option PV := lF43 [0, 1, 0, 1, 1] 0 (St.mk [(1, (AV.pv (PV.int .i64 i4))), (2, (AV.pv p5)), (15, (AV.pv (PV.slice 6 l6))), (16, (AV.pv (PV.int .i64 i7))), (17, (AV.pv (PV.int .i64 i8)))] [])
theorem L_expr_each_1_eq (i4 : Int) (p5 : PV) (l6 : List PV) (i7 : Int) (i8 : Int) : L_expr_each_1 i4 p5 l6 i7 i8 =
  (bif (decide (i8 < i7)) then (bif (decide ((0 : Int) ≤ i8)) then (((l6)[(Int.toNat i8)]?).bind (fun v9 => (c_g_i64_i64_i64_i64_s6 v9 (fun v10 v11 v12 v13 v14 => (((wc W n_expr_each [(PV.agg [(PV.int .i64 v10), (PV.int .i64 v11), (PV.int .i64 v12), (PV.int .i64 v13), (PV.slice 6 v14)]), (PV.int .i64 (IntKind.wrap .i64 (i4 + (1 : Int) : Int))), p5])).bind (fun v15 => (c_b v15 (fun v16 => (bif (!v16) then (some (PV.bool false)) else (L_expr_each_1 i4 p5 l6 i7 (IntKind.wrap .i64 (i8 + (1 : Int) : Int)))))))))))) else none) else (some (PV.bool true))) := (T43.loop [1, 1, 0, 1, 0] 0 _ rfl).trans (by kernel_rfl)
theorem e_expr_each (a0_0 : Int) (a0_1 : Int) (a0_2 : Int) (a0_3 : Int) (a0_4 : List PV) (a1 : Int) (a2 : PV) : wc W n_expr_each [(PV.agg [(PV.int .i64 a0_0), (PV.int .i64 a0_1), (PV.int .i64 a0_2), (PV.int .i64 a0_3), (PV.slice 6 a0_4)]), (PV.int .i64 a1), a2] =
  (((PV.asFn a2)).bind (fun v1 => (((wc W (Prod.fst v1) (((Prod.fst (Prod.snd v1)) ++ [(PV.agg [(PV.int .i64 a0_0), (PV.int .i64 a0_1), (PV.int .i64 a0_2), (PV.int .i64 a0_3), (PV.slice 6 a0_4)]), (PV.int .i64 a1)]) ++ (Prod.snd (Prod.snd v1))))).bind (fun v2 => (c_b v2 (fun v3 => (bif (!v3) then (some (PV.bool false)) else (L_expr_each_1 a1 a2 a0_4 (((List.length a0_4) : Nat) : Int) (0 : Int))))))))) := go (by kernel_rfl) (by kernel_rfl) T43 (by kernel_rfl)
noncomputable def jF43o1 : Jn (AV × List Ob) := (Classical.choose (exT fi43 (finO cfg fi43 false 1))).1
noncomputable def lF43o1 : Ln (AV × List Ob) := (Classical.choose (exT fi43 (finO cfg fi43 false 1))).2
theorem T43o1 : Tied cfg W fi43 (finO cfg fi43 false 1) jF43o1 lF43o1 := Classical.choose_spec (exT fi43 (finO cfg fi43 false 1))
noncomputable def L_expr_each_o1_1 (i12 : Int) (l13 : List PV) (i14 : Int) (i15 : Int) (i16 : Int) : Option (AV × List Ob) := lF43o1 [0, 1, 0, 1, 1] 1 (St.mk [(1, (AV.pv (PV.int .i64 i12))), (2, (AV.fnv n_expr_May_1 [] [(AV.own 0 0)])), (15, (AV.pv (PV.slice 6 l13))), (16, (AV.pv (PV.int .i64 i14))), (17, (AV.pv (PV.int .i64 i15)))] [(Ob.var false 0 (AV.pv (PV.int .i64 i16)))])
theorem L_expr_each_o1_1_eq (i12 : Int) (l13 : List PV) (i14 : Int) (i15 : Int) (i16 : Int) : L_expr_each_o1_1 i12 l13 i14 i15 i16 =
  (bif (decide (i15 < i14)) then (bif (decide ((0 : Int) ≤ i15)) then (((l13)[(Int.toNat i15)]?).bind (fun v17 => (c_g_i64_i64_i64_i64_s6 v17 (fun v18 v19 v20 v21 v22 => (((W n_expr_each false [(AV.pv (PV.agg [(PV.int .i64 v18), (PV.int .i64 v19), (PV.int .i64 v20), (PV.int .i64 v21), (PV.slice 6 v22)])), (AV.pv (PV.int .i64 (IntKind.wrap .i64 (i12 + (1 : Int) : Int)))), (AV.fnv n_expr_May_1 [] [(AV.own 0 0)])] [(Ob.var false 0 (AV.pv (PV.int .i64 i16)))])).bind (fun v30 => (k_5b106d v30 (fun v31 v32 => (c_b v31 (fun v33 => (bif (!v33) then (some ((AV.pv (PV.bool false)), [(Ob.var false 0 (AV.pv (PV.int .i64 v32)))])) else (L_expr_each_o1_1 i12 l13 i14 (IntKind.wrap .i64 (i15 + (1 : Int) : Int)) v32)))))))))))) else none) else (some ((AV.pv (PV.bool true)), [(Ob.var false 0 (AV.pv (PV.int .i64 i16)))]))) := (T43o1.loop [1, 1, 0, 1, 0] 1 _ rfl).trans (by kernel_rfl)
theorem o_expr_each_o1_1 (i0 : Int) (i1 : Int) (i2 : Int) (i3 : Int) (l4 : List PV) (i5 : Int) (i6 : Int) : W n_expr_each false [(AV.pv (PV.agg [(PV.int .i64 i0), (PV.int .i64 i1), (PV.int .i64 i2), (PV.int .i64 i3), (PV.slice 6 l4)])), (AV.pv (PV.int .i64 i5)), (AV.fnv n_expr_May_1 [] [(AV.own 0 0)])] [(Ob.var false 0 (AV.pv (PV.int .i64 i6)))] =
  (((W n_expr_May_1 false [(AV.pv (PV.agg [(PV.int .i64 i0), (PV.int .i64 i1), (PV.int .i64 i2), (PV.int .i64 i3), (PV.slice 6 l4)])), (AV.pv (PV.int .i64 i5)), (AV.own 0 0)] [(Ob.var false 0 (AV.pv (PV.int .i64 i6)))])).bind (fun v8 => (k_5b106d v8 (fun v9 v10 => (c_b v9 (fun v11 => (bif (!v11) then (some ((AV.pv (PV.bool false)), [(Ob.var false 0 (AV.pv (PV.int .i64 v10)))])) else (L_expr_each_o1_1 i5 l4 (((List.length l4) : Nat) : Int) (0 : Int) v10)))))))) := goO (by kernel_rfl) (by kernel_rfl) T43o1 rfl (by kernel_rfl)
noncomputable def jF43o2 : Jn (AV × List Ob) := (Classical.choose (exT fi43 (finO cfg fi43 false 2))).1
noncomputable def lF43o2 : Ln (AV × List Ob) := (Classical.choose (exT fi43 (finO cfg fi43 false 2))).2
theorem T43o2 : Tied cfg W fi43 (finO cfg fi43 false 2) jF43o2 lF43o2 := Classical.choose_spec (exT fi43 (finO cfg fi43 false 2))
noncomputable def L_expr_each_o2_1 (i12 : Int) (l13 : List PV) (i14 : Int) (i15 : Int) (l16 : List PV) : Option (AV × List Ob) := lF43o2 [0, 1, 0, 1, 1] 2 (St.mk [(1, (AV.pv (PV.int .i64 i12))), (2, (AV.fnv n_expr_Cols_1 [] [(AV.own 0 0)])), (15, (AV.pv (PV.slice 6 l13))), (16, (AV.pv (PV.int .i64 i14))), (17, (AV.pv (PV.int .i64 i15)))] [(Ob.var false 0 (AV.view 1 0 none)), (Ob.row false 0 0 l16)])
theorem L_expr_each_o2_1_eq (i12 : Int) (l13 : List PV) (i14 : Int) (i15 : Int) (l16 : List PV) : L_expr_each_o2_1 i12 l13 i14 i15 l16 =
  (bif (decide (i15 < i14)) then (bif (decide ((0 : Int) ≤ i15)) then (((l13)[(Int.toNat i15)]?).bind (fun v17 => (c_g_i64_i64_i64_i64_s6 v17 (fun v18 v19 v20 v21 v22 => (((W n_expr_each false [(AV.pv (PV.agg [(PV.int .i64 v18), (PV.int .i64 v19), (PV.int .i64 v20), (PV.int .i64 v21), (PV.slice 6 v22)])), (AV.pv (PV.int .i64 (IntKind.wrap .i64 (i12 + (1 : Int) : Int)))), (AV.fnv n_expr_Cols_1 [] [(AV.own 0 0)])] [(Ob.var false 0 (AV.view 1 0 none)), (Ob.row false 0 0 l16)])).bind (fun v30 => (k_b2223f v30 (fun v31 v32 => (c_b v31 (fun v33 => (bif (!v33) then (some ((AV.pv (PV.bool false)), [(Ob.var false 0 (AV.view 1 0 none)), (Ob.row false 0 0 v32)])) else (L_expr_each_o2_1 i12 l13 i14 (IntKind.wrap .i64 (i15 + (1 : Int) : Int)) v32)))))))))))) else none) else (some ((AV.pv (PV.bool true)), [(Ob.var false 0 (AV.view 1 0 none)), (Ob.row false 0 0 l16)]))) := (T43o2.loop [1, 1, 0, 1, 0] 2 _ rfl).trans (by kernel_rfl)
theorem o_expr_each_o2_1 (i0 : Int) (i1 : Int) (i2 : Int) (i3 : Int) (l4 : List PV) (i5 : Int) (l6 : List PV) : W n_expr_each false [(AV.pv (PV.agg [(PV.int .i64 i0), (PV.int .i64 i1), (PV.int .i64 i2), (PV.int .i64 i3), (PV.slice 6 l4)])), (AV.pv (PV.int .i64 i5)), (AV.fnv n_expr_Cols_1 [] [(AV.own 0 0)])] [(Ob.var false 0 (AV.view 1 0 none)), (Ob.row false 0 0 l6)] =
  (((W n_expr_Cols_1 false [(AV.pv (PV.agg [(PV.int .i64 i0), (PV.int .i64 i1), (PV.int .i64 i2), (PV.int .i64 i3), (PV.slice 6 l4)])), (AV.pv (PV.int .i64 i5)), (AV.own 0 0)] [(Ob.var false 0 (AV.view 1 0 none)), (Ob.row false 0 0 l6)])).bind (fun v8 => (k_b2223f v8 (fun v9 v10 => (c_b v9 (fun v11 => (bif (!v11) then (some ((AV.pv (PV.bool false)), [(Ob.var false 0 (AV.view 1 0 none)), (Ob.row false 0 0 v10)])) else (L_expr_each_o2_1 i5 l4 (((List.length l4) : Nat) : Int) (0 : Int) v10)))))))) := goO (by kernel_rfl) (by kernel_rfl) T43o2 rfl (by kernel_rfl)
noncomputable def jF44 : Jn PV := (Classical.choose (exT fi44 (fin cfg fi44))).1
noncomputable def lF44 : Ln PV := (Classical.choose (exT fi44 (fin cfg fi44))).2
theorem T44 : Tied cfg W fi44 (fin cfg fi44) jF44 lF44 := Classical.choose_spec (exT fi44 (fin cfg fi44))
theorem e_expr_Cols_1 (a0_0 : Int) (a0_1 : Int) (a0_2 : Int) (a0_3 : Int) (a0_4 : List PV) (a1 : Int) (c0 : List PV) : wc W n_expr_Cols_1 [(PV.agg [(PV.int .i64 a0_0), (PV.int .i64 a0_1), (PV.int .i64 a0_2), (PV.int .i64 a0_3), (PV.slice 6 a0_4)]), (PV.int .i64 a1), (PV.imm 0 (PV.slice 0 c0) 0)] =
  (bif (a0_0 == (1 : Int)) then none else (some (PV.bool true))) := go (by kernel_rfl) (by kernel_rfl) T44 (by kernel_rfl)
noncomputable def jF44o2 : Jn (AV × List Ob) := (Classical.choose (exT fi44 (finO cfg fi44 false 2))).1
noncomputable def lF44o2 : Ln (AV × List Ob) := (Classical.choose (exT fi44 (finO cfg fi44 false 2))).2
theorem T44o2 : Tied cfg W fi44 (finO cfg fi44 false 2) jF44o2 lF44o2 := Classical.choose_spec (exT fi44 (finO cfg fi44 false 2))
theorem o_expr_Cols_1_o2_1 (i0 : Int) (i1 : Int) (i2 : Int) (i3 : Int) (l4 : List PV) (i5 : Int) (l6 : List PV) : W n_expr_Cols_1 false [(AV.pv (PV.agg [(PV.int .i64 i0), (PV.int .i64 i1), (PV.int .i64 i2), (PV.int .i64 i3), (PV.slice 6 l4)])), (AV.pv (PV.int .i64 i5)), (AV.own 0 0)] [(Ob.var false 0 (AV.view 1 0 none)), (Ob.row false 0 0 l6)] =
  (bif (i0 == (1 : Int)) then (bif (true && (decide (((List.length l6) + 1 : Nat) ≤ 4294967296))) then (some ((AV.pv (PV.bool true)), [(Ob.var false 0 (AV.view 1 0 none)), (Ob.row false 0 0 (l6 ++ [(PV.int .i64 i1)]))])) else none) else (some ((AV.pv (PV.bool true)), [(Ob.var false 0 (AV.view 1 0 none)), (Ob.row false 0 0 l6)]))) := goO (by kernel_rfl) (by kernel_rfl) T44o2 rfl (by kernel_rfl)
noncomputable def jF47 : Jn PV := (Classical.choose (exT fi47 (fin cfg fi47))).1
noncomputable def lF47 : Ln PV := (Classical.choose (exT fi47 (fin cfg fi47))).2
theorem T47 : Tied cfg W fi47 (fin cfg fi47) jF47 lF47 := Classical.choose_spec (exT fi47 (fin cfg fi47))
noncomputable def L_bag_some_1 (p3 : PV) (l4 : List PV) (i5 : Int) (i6 : Int) (l7 : List PV) (l8 : List PV) (l9 : List PV) (l10 : List PV) : Option PV := lF47 [0, 1, 0, 1, 1] 5 (St.mk [(1, (AV.pv p3)), (4, (AV.own 0 0)), (5, (AV.own 3 0)), (13, (AV.pv (PV.slice 0 l4))), (14, (AV.pv (PV.int .i64 i5))), (15, (AV.pv (PV.int .i64 i6)))] [(Ob.var false 3 (AV.agg [(AV.nil 0), (AV.nil 0)])), (Ob.row false 0 0 l7), (Ob.row false 0 0 l8), (Ob.var false 3 (AV.agg [(AV.pv (PV.slice 0 l9)), (AV.view 4 0 none)])), (Ob.row false 0 0 l10)])
theorem L_bag_some_1_eq (p3 : PV) (l4 : List PV) (i5 : Int) (i6 : Int) (l7 : List PV) (l8 : List PV) (l9 : List PV) (l10 : List PV) : L_bag_some_1 p3 l4 i5 i6 l7 l8 l9 l10 =
  (bif (decide (i6 < i5)) then (bif (decide ((0 : Int) ≤ i6)) then (((l4)[(Int.toNat i6)]?).bind (fun v11 => (c_s3 v11 (fun v12 => (((PV.asFn p3)).bind (fun v13 => (((wc W (Prod.fst v13) (((Prod.fst (Prod.snd v13)) ++ [(PV.slice 3 v12)]) ++ (Prod.snd (Prod.snd v13))))).bind (fun v14 => (c_b v14 (fun v15 => (bif v15 then (((wc W n_slices_Clone_api_Val_api_Val [(PV.slice 3 v12)])).bind (fun v16 => (c_s3 v16 (fun v17 => (bif (true && (decide (((List.length l10) + 1 : Nat) ≤ 4294967296))) then (L_bag_some_1 p3 l4 i5 (IntKind.wrap .i64 (i6 + (1 : Int) : Int)) l7 l8 l9 (l10 ++ [(PV.slice 3 v17)])) else none))))) else (L_bag_some_1 p3 l4 i5 (IntKind.wrap .i64 (i6 + (1 : Int) : Int)) l7 l8 l9 l10)))))))))))) else none) else (some (PV.agg [(PV.slice 0 l9), (PV.slice 0 l10)]))) := (T47.loop [1, 1, 0, 1, 0] 5 _ rfl).trans (by kernel_rfl)
theorem e_bag_some (a0_0 : List PV) (a0_1 : List PV) (a1 : PV) : wc W n_bag_some [(PV.agg [(PV.slice 0 a0_0), (PV.slice 0 a0_1)]), a1] =
  (((wc W n_slices_Clone_int_int [(PV.slice 0 a0_0)])).bind (fun v1 => (c_s0 v1 (fun v2 => (L_bag_some_1 a1 a0_1 (((List.length a0_1) : Nat) : Int) (0 : Int) [] [] v2 []))))) := go (by kernel_rfl) (by kernel_rfl) T47 (by kernel_rfl)
noncomputable def jF48 : Jn PV := (Classical.choose (exT fi48 (fin cfg fi48))).1
noncomputable def lF48 : Ln PV := (Classical.choose (exT fi48 (fin cfg fi48))).2
theorem T48 : Tied cfg W fi48 (fin cfg fi48) jF48 lF48 := Classical.choose_spec (exT fi48 (fin cfg fi48))
theorem e_bag_Keep_1 (a0 : List PV) (c0 : List PV) (c1_0 : List PV) (c1_1 : List PV) : wc W n_bag_Keep_1 [(PV.slice 3 a0), (PV.imm 0 (PV.slice 6 c0) 0), (PV.imm 3 (PV.agg [(PV.slice 0 c1_0), (PV.slice 0 c1_1)]) 0)] =
  (((wc W n_slices_ContainsFunc_api_Expr_api_Expr [(PV.slice 6 c0), (PV.fn n_bag_Keep_1_1 [] [(PV.imm 3 (PV.agg [(PV.slice 0 c1_0), (PV.slice 0 c1_1)]) 0), (PV.imm 0 (PV.slice 3 a0) 0)])])).bind (fun v1 => (c_b v1 (fun v2 => (some (PV.bool (!v2))))))) := go (by kernel_rfl) (by kernel_rfl) T48 (by kernel_rfl)
noncomputable def jF49 : Jn PV := (Classical.choose (exT fi49 (fin cfg fi49))).1
noncomputable def lF49 : Ln PV := (Classical.choose (exT fi49 (fin cfg fi49))).2
theorem T49 : Tied cfg W fi49 (fin cfg fi49) jF49 lF49 := Classical.choose_spec (exT fi49 (fin cfg fi49))
theorem e_slices_ContainsFunc_api_Expr_api_Expr (a0 : List PV) (a1 : PV) : wc W n_slices_ContainsFunc_api_Expr_api_Expr [(PV.slice 6 a0), a1] =
  (((wc W n_slices_IndexFunc_api_Expr_api_Expr [(PV.slice 6 a0), a1])).bind (fun v1 => (c_i64 v1 (fun v2 => (some (PV.bool (decide (GE.ge v2 (0 : Int))))))))) := go (by kernel_rfl) (by kernel_rfl) T49 (by kernel_rfl)
noncomputable def jF50 : Jn PV := (Classical.choose (exT fi50 (fin cfg fi50))).1
noncomputable def lF50 : Ln PV := (Classical.choose (exT fi50 (fin cfg fi50))).2
theorem T50 : Tied cfg W fi50 (fin cfg fi50) jF50 lF50 := Classical.choose_spec (exT fi50 (fin cfg fi50))
theorem e_bag_Keep_1_1 (a0_0 : Int) (a0_1 : Int) (a0_2 : Int) (a0_3 : Int) (a0_4 : List PV) (c0_0 : List PV) (c0_1 : List PV) (c1 : List PV) : wc W n_bag_Keep_1_1 [(PV.agg [(PV.int .i64 a0_0), (PV.int .i64 a0_1), (PV.int .i64 a0_2), (PV.int .i64 a0_3), (PV.slice 6 a0_4)]), (PV.imm 3 (PV.agg [(PV.slice 0 c0_0), (PV.slice 0 c0_1)]) 0), (PV.imm 0 (PV.slice 3 c1) 0)] =
  (((wc W n_expr_Keeps [(PV.agg [(PV.int .i64 a0_0), (PV.int .i64 a0_1), (PV.int .i64 a0_2), (PV.int .i64 a0_3), (PV.slice 6 a0_4)]), (PV.slice 0 c0_0), (PV.slice 3 c1)])).bind (fun v1 => (c_b v1 (fun v2 => (some (PV.bool (!v2))))))) := go (by kernel_rfl) (by kernel_rfl) T50 (by kernel_rfl)
noncomputable def jF51 : Jn PV := (Classical.choose (exT fi51 (fin cfg fi51))).1
noncomputable def lF51 : Ln PV := (Classical.choose (exT fi51 (fin cfg fi51))).2
theorem T51 : Tied cfg W fi51 (fin cfg fi51) jF51 lF51 := Classical.choose_spec (exT fi51 (fin cfg fi51))
theorem e_expr_Keeps (a0_0 : Int) (a0_1 : Int) (a0_2 : Int) (a0_3 : Int) (a0_4 : List PV) (a1 : List PV) (a2 : List PV) : wc W n_expr_Keeps [(PV.agg [(PV.int .i64 a0_0), (PV.int .i64 a0_1), (PV.int .i64 a0_2), (PV.int .i64 a0_3), (PV.slice 6 a0_4)]), (PV.slice 0 a1), (PV.slice 3 a2)] =
  (((wc W n_expr_Eval [(PV.agg [(PV.int .i64 a0_0), (PV.int .i64 a0_1), (PV.int .i64 a0_2), (PV.int .i64 a0_3), (PV.slice 6 a0_4)]), (PV.slice 0 a1), (PV.slice 3 a2)])).bind (fun v1 => (c_g_i64_i64 v1 (fun v2 v3 => (((wc W n_val_True [(PV.agg [(PV.int .i64 v2), (PV.int .i64 v3)])])).bind (fun v4 => (c_b v4 (fun v5 => (some (PV.bool v5)))))))))) := go (by kernel_rfl) (by kernel_rfl) T51 (by kernel_rfl)
noncomputable def jF52 : Jn PV := (Classical.choose (exT fi52 (fin cfg fi52))).1
noncomputable def lF52 : Ln PV := (Classical.choose (exT fi52 (fin cfg fi52))).2
theorem T52 : Tied cfg W fi52 (fin cfg fi52) jF52 lF52 := Classical.choose_spec (exT fi52 (fin cfg fi52))
noncomputable def L_slices_Concat_int_int_1 (l1 : List PV) (i2 : Int) (l3 : List PV) (i4 : Int) (i5 : Int) : Option PV := lF52 [0, 1, 0, 1, 1] 0 (St.mk [(0, (AV.pv (PV.slice 0 l1))), (3, (AV.pv (PV.int .i64 i2))), (9, (AV.pv (PV.slice 0 l3))), (10, (AV.pv (PV.int .i64 i4))), (11, (AV.pv (PV.int .i64 i5)))] [])
noncomputable def L_slices_Concat_int_int_2 (l11 : List PV) (i12 : Int) (i13 : Int) (l14 : List PV) : Option PV := lF52 [0, 1, 0, 1, 1, 1, 1] 1 (St.mk [(6, (AV.view 0 0 none)), (25, (AV.pv (PV.slice 0 l11))), (26, (AV.pv (PV.int .i64 i12))), (27, (AV.pv (PV.int .i64 i13)))] [(Ob.row false 0 0 l14)])
theorem L_slices_Concat_int_int_1_eq (l1 : List PV) (i2 : Int) (l3 : List PV) (i4 : Int) (i5 : Int) : L_slices_Concat_int_int_1 l1 i2 l3 i4 i5 =
  (bif (decide (i5 < i4)) then (bif (decide ((0 : Int) ≤ i5)) then (((l3)[(Int.toNat i5)]?).bind (fun v6 => (c_s0 v6 (fun v7 => (bif (decide ((IntKind.wrap .i64 (i2 + (((List.length v7) : Nat) : Int) : Int)) < (0 : Int))) then none else (L_slices_Concat_int_int_1 l1 (IntKind.wrap .i64 (i2 + (((List.length v7) : Nat) : Int) : Int)) l3 i4 (IntKind.wrap .i64 (i5 + (1 : Int) : Int)))))))) else none) else (((W n_slices_Grow_int_int true [(AV.nil 0), (AV.pv (PV.int .i64 i2))] [])).bind (fun v9 => (k_d697de v9 (fun v10 => (L_slices_Concat_int_int_2 l1 (((List.length l1) : Nat) : Int) (0 : Int) v10)))))) := (T52.loop [1, 1, 0, 1, 0] 0 _ rfl).trans (by kernel_rfl)
theorem L_slices_Concat_int_int_2_eq (l11 : List PV) (i12 : Int) (i13 : Int) (l14 : List PV) : L_slices_Concat_int_int_2 l11 i12 i13 l14 =
  (bif (decide (i13 < i12)) then (bif (decide ((0 : Int) ≤ i13)) then (((l11)[(Int.toNat i13)]?).bind (fun v15 => (c_s0 v15 (fun v16 => (bif (true && (decide (((List.length l14) + (List.length v16) : Nat) ≤ 4294967296))) then (L_slices_Concat_int_int_2 l11 i12 (IntKind.wrap .i64 (i13 + (1 : Int) : Int)) (l14 ++ v16)) else none))))) else none) else (some (PV.slice 0 l14))) := (T52.loop [1, 1, 1, 1, 0, 1, 0] 1 _ rfl).trans (by kernel_rfl)
theorem e_slices_Concat_int_int (a0 : List PV) : wc W n_slices_Concat_int_int [(PV.slice 0 a0)] =
  (L_slices_Concat_int_int_1 a0 (0 : Int) a0 (((List.length a0) : Nat) : Int) (0 : Int)) := go (by kernel_rfl) (by kernel_rfl) T52 (by kernel_rfl)
noncomputable def jF53 : Jn PV := (Classical.choose (exT fi53 (fin cfg fi53))).1
noncomputable def lF53 : Ln PV := (Classical.choose (exT fi53 (fin cfg fi53))).2
theorem T53 : Tied cfg W fi53 (fin cfg fi53) jF53 lF53 := Classical.choose_spec (exT fi53 (fin cfg fi53))
noncomputable def L_slices_Concat_api_Val_api_Val_1 (l1 : List PV) (i2 : Int) (l3 : List PV) (i4 : Int) (i5 : Int) : Option PV := lF53 [0, 1, 0, 1, 1] 0 (St.mk [(0, (AV.pv (PV.slice 0 l1))), (3, (AV.pv (PV.int .i64 i2))), (9, (AV.pv (PV.slice 0 l3))), (10, (AV.pv (PV.int .i64 i4))), (11, (AV.pv (PV.int .i64 i5)))] [])
noncomputable def L_slices_Concat_api_Val_api_Val_2 (l11 : List PV) (i12 : Int) (i13 : Int) (l14 : List PV) : Option PV := lF53 [0, 1, 0, 1, 1, 1, 1] 1 (St.mk [(6, (AV.view 0 0 none)), (25, (AV.pv (PV.slice 0 l11))), (26, (AV.pv (PV.int .i64 i12))), (27, (AV.pv (PV.int .i64 i13)))] [(Ob.row false 0 3 l14)])
theorem L_slices_Concat_api_Val_api_Val_1_eq (l1 : List PV) (i2 : Int) (l3 : List PV) (i4 : Int) (i5 : Int) : L_slices_Concat_api_Val_api_Val_1 l1 i2 l3 i4 i5 =
  (bif (decide (i5 < i4)) then (bif (decide ((0 : Int) ≤ i5)) then (((l3)[(Int.toNat i5)]?).bind (fun v6 => (c_s3 v6 (fun v7 => (bif (decide ((IntKind.wrap .i64 (i2 + (((List.length v7) : Nat) : Int) : Int)) < (0 : Int))) then none else (L_slices_Concat_api_Val_api_Val_1 l1 (IntKind.wrap .i64 (i2 + (((List.length v7) : Nat) : Int) : Int)) l3 i4 (IntKind.wrap .i64 (i5 + (1 : Int) : Int)))))))) else none) else (((W n_slices_Grow_api_Val_api_Val true [(AV.nil 3), (AV.pv (PV.int .i64 i2))] [])).bind (fun v9 => (k_83ed81 v9 (fun v10 => (L_slices_Concat_api_Val_api_Val_2 l1 (((List.length l1) : Nat) : Int) (0 : Int) v10)))))) := (T53.loop [1, 1, 0, 1, 0] 0 _ rfl).trans (by kernel_rfl)
theorem L_slices_Concat_api_Val_api_Val_2_eq (l11 : List PV) (i12 : Int) (i13 : Int) (l14 : List PV) : L_slices_Concat_api_Val_api_Val_2 l11 i12 i13 l14 =
  (bif (decide (i13 < i12)) then (bif (decide ((0 : Int) ≤ i13)) then (((l11)[(Int.toNat i13)]?).bind (fun v15 => (c_s3 v15 (fun v16 => (bif (true && (decide (((List.length l14) + (List.length v16) : Nat) ≤ 4294967296))) then (L_slices_Concat_api_Val_api_Val_2 l11 i12 (IntKind.wrap .i64 (i13 + (1 : Int) : Int)) (l14 ++ v16)) else none))))) else none) else (some (PV.slice 3 l14))) := (T53.loop [1, 1, 1, 1, 0, 1, 0] 1 _ rfl).trans (by kernel_rfl)
theorem e_slices_Concat_api_Val_api_Val (a0 : List PV) : wc W n_slices_Concat_api_Val_api_Val [(PV.slice 0 a0)] =
  (L_slices_Concat_api_Val_api_Val_1 a0 (0 : Int) a0 (((List.length a0) : Nat) : Int) (0 : Int)) := go (by kernel_rfl) (by kernel_rfl) T53 (by kernel_rfl)
noncomputable def jF87 : Jn PV := (Classical.choose (exT fi87 (fin cfg fi87))).1
noncomputable def lF87 : Ln PV := (Classical.choose (exT fi87 (fin cfg fi87))).2
theorem T87 : Tied cfg W fi87 (fin cfg fi87) jF87 lF87 := Classical.choose_spec (exT fi87 (fin cfg fi87))
theorem e_val_Of (a0 : Int) : wc W n_val_Of [(PV.int .i64 a0)] =
  (some (PV.agg [(PV.int .i64 (0 : Int)), (PV.int .i64 a0)])) := go (by kernel_rfl) (by kernel_rfl) T87 (by kernel_rfl)
noncomputable def jF94 : Jn PV := (Classical.choose (exT fi94 (fin cfg fi94))).1
noncomputable def lF94 : Ln PV := (Classical.choose (exT fi94 (fin cfg fi94))).2
theorem T94 : Tied cfg W fi94 (fin cfg fi94) jF94 lF94 := Classical.choose_spec (exT fi94 (fin cfg fi94))
noncomputable def L_roadbookref02_size_1 (i1 : Int) (i2 : Int) (i3 : Int) (i4 : Int) (i5 : Int) (l6 : List PV) (i7 : Int) (i8 : Int) : Option PV := lF94 [0, 1, 0, 1, 1] 0 (St.mk [(1, (AV.pv (PV.int .i64 i1))), (2, (AV.pv (PV.imm 6 (PV.agg [(PV.int .i64 i2), (PV.int .i64 i3), (PV.int .i64 i4), (PV.int .i64 i5), (PV.slice 6 l6)]) 0))), (5, (AV.pv (PV.int .i64 i7))), (6, (AV.pv (PV.int .i64 i8)))] [])
noncomputable def J_roadbookref02_size_2 (i9 : Int) (i10 : Int) (i11 : Int) (i12 : Int) (i13 : Int) (l14 : List PV) (i15 : Int) (i16 : Int) : Option PV := jF94 [1, 0, 0, 1, 0, 1, 1] (St.mk [(1, (AV.pv (PV.int .i64 i9))), (2, (AV.pv (PV.imm 6 (PV.agg [(PV.int .i64 i10), (PV.int .i64 i11), (PV.int .i64 i12), (PV.int .i64 i13), (PV.slice 6 l14)]) 0))), (5, (AV.pv (PV.int .i64 i15))), (6, (AV.pv (PV.int .i64 i16)))] [])
theorem L_roadbookref02_size_1_eq (i1 : Int) (i2 : Int) (i3 : Int) (i4 : Int) (i5 : Int) (l6 : List PV) (i7 : Int) (i8 : Int) : L_roadbookref02_size_1 i1 i2 i3 i4 i5 l6 i7 i8 =
  (bif (decide (i8 < (((List.length l6) : Nat) : Int))) then (bif (decide (i7 ≤ i1)) then (J_roadbookref02_size_2 i1 i2 i3 i4 i5 l6 i7 i8) else (some (PV.int .i64 i7))) else (some (PV.int .i64 i7))) := (T94.loop [1, 1, 0, 1, 0] 0 _ rfl).trans (by kernel_rfl)
theorem J_roadbookref02_size_2_eq (i9 : Int) (i10 : Int) (i11 : Int) (i12 : Int) (i13 : Int) (l14 : List PV) (i15 : Int) (i16 : Int) : J_roadbookref02_size_2 i9 i10 i11 i12 i13 l14 i15 i16 =
  (bif (decide ((0 : Int) ≤ i16)) then (((l14)[(Int.toNat i16)]?).bind (fun v17 => (c_g_i64_i64_i64_i64_s6 v17 (fun v18 v19 v20 v21 v22 => (((wc W n_roadbookref02_size [(PV.agg [(PV.int .i64 v18), (PV.int .i64 v19), (PV.int .i64 v20), (PV.int .i64 v21), (PV.slice 6 v22)]), (PV.int .i64 (IntKind.wrap .i64 (i9 - i15 : Int)))])).bind (fun v23 => (c_i64 v23 (fun v24 => (L_roadbookref02_size_1 i9 i10 i11 i12 i13 l14 (IntKind.wrap .i64 (i15 + v24 : Int)) (IntKind.wrap .i64 (i16 + (1 : Int) : Int))))))))))) else none) := (T94.join [1, 1, 0, 1, 0, 0, 1] _).trans (by kernel_rfl)
theorem e_roadbookref02_size (a0_0 : Int) (a0_1 : Int) (a0_2 : Int) (a0_3 : Int) (a0_4 : List PV) (a1 : Int) : wc W n_roadbookref02_size [(PV.agg [(PV.int .i64 a0_0), (PV.int .i64 a0_1), (PV.int .i64 a0_2), (PV.int .i64 a0_3), (PV.slice 6 a0_4)]), (PV.int .i64 a1)] =
  (L_roadbookref02_size_1 a1 a0_0 a0_1 a0_2 a0_3 a0_4 (1 : Int) (0 : Int)) := go (by kernel_rfl) (by kernel_rfl) T94 (by kernel_rfl)
noncomputable def jF95 : Jn PV := (Classical.choose (exT fi95 (fin cfg fi95))).1
noncomputable def lF95 : Ln PV := (Classical.choose (exT fi95 (fin cfg fi95))).2
theorem T95 : Tied cfg W fi95 (fin cfg fi95) jF95 lF95 := Classical.choose_spec (exT fi95 (fin cfg fi95))
noncomputable def L_slices_IndexFunc_api_Val_api_Val_b1f6_1 (l1 : List PV) (p2 : PV) (i3 : Int) (i4 : Int) : Option PV := lF95 [0, 1, 0, 1] 0 (St.mk [(0, (AV.pv (PV.slice 3 l1))), (1, (AV.pv p2)), (7, (AV.pv (PV.int .i64 i3))), (8, (AV.pv (PV.int .i64 i4)))] [])
theorem L_slices_IndexFunc_api_Val_api_Val_b1f6_1_eq (l1 : List PV) (p2 : PV) (i3 : Int) (i4 : Int) : L_slices_IndexFunc_api_Val_api_Val_b1f6_1 l1 p2 i3 i4 =
  (bif (decide (i4 < i3)) then (bif (decide ((0 : Int) ≤ i4)) then (((l1)[(Int.toNat i4)]?).bind (fun v5 => (c_g_i64_i64 v5 (fun v6 v7 => (((PV.asFn p2)).bind (fun v8 => (((wc W (Prod.fst v8) (((Prod.fst (Prod.snd v8)) ++ [(PV.agg [(PV.int .i64 v6), (PV.int .i64 v7)])]) ++ (Prod.snd (Prod.snd v8))))).bind (fun v9 => (c_b v9 (fun v10 => (bif v10 then (some (PV.int .i64 i4)) else (L_slices_IndexFunc_api_Val_api_Val_b1f6_1 l1 p2 i3 (IntKind.wrap .i64 (i4 + (1 : Int) : Int)))))))))))))) else none) else (some (PV.int .i64 (-1 : Int)))) := (T95.loop [1, 0, 1, 0] 0 _ rfl).trans (by kernel_rfl)
theorem e_slices_IndexFunc_api_Val_api_Val_b1f6 (a0 : List PV) (a1 : PV) : wc W n_slices_IndexFunc_api_Val_api_Val_b1f6 [(PV.slice 3 a0), a1] =
  (L_slices_IndexFunc_api_Val_api_Val_b1f6_1 a0 a1 (((List.length a0) : Nat) : Int) (0 : Int)) := go (by kernel_rfl) (by kernel_rfl) T95 (by kernel_rfl)
noncomputable def jF96 : Jn PV := (Classical.choose (exT fi96 (fin cfg fi96))).1
noncomputable def lF96 : Ln PV := (Classical.choose (exT fi96 (fin cfg fi96))).2
theorem T96 : Tied cfg W fi96 (fin cfg fi96) jF96 lF96 := Classical.choose_spec (exT fi96 (fin cfg fi96))
theorem e_expr_May_1 (a0_0 : Int) (a0_1 : Int) (a0_2 : Int) (a0_3 : Int) (a0_4 : List PV) (a1 : Int) (c0 : Int) : wc W n_expr_May_1 [(PV.agg [(PV.int .i64 a0_0), (PV.int .i64 a0_1), (PV.int .i64 a0_2), (PV.int .i64 a0_3), (PV.slice 6 a0_4)]), (PV.int .i64 a1), (PV.imm 0 (PV.int .i64 c0) 0)] =
  none := go (by kernel_rfl) (by kernel_rfl) T96 (by kernel_rfl)
noncomputable def jF96o1 : Jn (AV × List Ob) := (Classical.choose (exT fi96 (finO cfg fi96 false 1))).1
noncomputable def lF96o1 : Ln (AV × List Ob) := (Classical.choose (exT fi96 (finO cfg fi96 false 1))).2
theorem T96o1 : Tied cfg W fi96 (finO cfg fi96 false 1) jF96o1 lF96o1 := Classical.choose_spec (exT fi96 (finO cfg fi96 false 1))
theorem o_expr_May_1_o1_1 (i0 : Int) (i1 : Int) (i2 : Int) (i3 : Int) (l4 : List PV) (i5 : Int) (i6 : Int) : W n_expr_May_1 false [(AV.pv (PV.agg [(PV.int .i64 i0), (PV.int .i64 i1), (PV.int .i64 i2), (PV.int .i64 i3), (PV.slice 6 l4)])), (AV.pv (PV.int .i64 i5)), (AV.own 0 0)] [(Ob.var false 0 (AV.pv (PV.int .i64 i6)))] =
  (bif (decide ((IntKind.wrap .i64 (i6 + (1 : Int) : Int)) ≤ (30 : Int))) then (bif (decide (i5 ≤ (6 : Int))) then (((wc W n_expr_part [(PV.agg [(PV.int .i64 i0), (PV.int .i64 i1), (PV.int .i64 i2), (PV.int .i64 i3), (PV.slice 6 l4)])])).bind (fun v1 => (c_b v1 (fun v2 => (some ((AV.pv (PV.bool v2)), [(Ob.var false 0 (AV.pv (PV.int .i64 (IntKind.wrap .i64 (i6 + (1 : Int) : Int)))))])))))) else (some ((AV.pv (PV.bool false)), [(Ob.var false 0 (AV.pv (PV.int .i64 (IntKind.wrap .i64 (i6 + (1 : Int) : Int)))))]))) else (some ((AV.pv (PV.bool false)), [(Ob.var false 0 (AV.pv (PV.int .i64 (IntKind.wrap .i64 (i6 + (1 : Int) : Int)))))]))) := goO (by kernel_rfl) (by kernel_rfl) T96o1 rfl (by kernel_rfl)
end Go.Cf

namespace Go.Cf
open Go Go.Ab
set_option linter.unusedVariables false
set_option maxRecDepth 100000
noncomputable def jF97 : Jn PV := (Classical.choose (exT fi97 (fin cfg fi97))).1
noncomputable def lF97 : Ln PV := (Classical.choose (exT fi97 (fin cfg fi97))).2
theorem T97 : Tied cfg W fi97 (fin cfg fi97) jF97 lF97 := Classical.choose_spec (exT fi97 (fin cfg fi97))
noncomputable def J_expr_part_1 (i5 : Int) (i6 : Int) (i7 : Int) (i8 : Int) (l9 : List PV) (b10 : Bool) (i11 : Int) (i12 : Int) (p13 : PV) : Option PV := jF97 [1, 1, 1] (St.mk [(1, (AV.pv (PV.imm 6 (PV.agg [(PV.int .i64 i5), (PV.int .i64 i6), (PV.int .i64 i7), (PV.int .i64 i8), (PV.slice 6 l9)]) 0))), (4, (AV.pv (PV.bool b10)))] [(Ob.var false 4 (AV.pv (PV.agg [(PV.int .i64 i11), (PV.int .i64 i12), p13])))])
noncomputable def J_expr_part_2 (i14 : Int) (i15 : Int) (i16 : Int) (i17 : Int) (l18 : List PV) (b19 : Bool) (b20 : Bool) (i21 : Int) (i22 : Int) (p23 : PV) : Option PV := jF97 [1, 1, 1, 1] (St.mk [(1, (AV.pv (PV.imm 6 (PV.agg [(PV.int .i64 i14), (PV.int .i64 i15), (PV.int .i64 i16), (PV.int .i64 i17), (PV.slice 6 l18)]) 0))), (4, (AV.pv (PV.bool b19))), (5, (AV.pv (PV.bool b20)))] [(Ob.var false 4 (AV.pv (PV.agg [(PV.int .i64 i21), (PV.int .i64 i22), p23])))])
noncomputable def J_expr_part_3 (i27 : Int) (i28 : Int) (i29 : Int) (i30 : Int) (l31 : List PV) (b32 : Bool) (b33 : Bool) (b34 : Bool) (i35 : Int) (i36 : Int) (p37 : PV) : Option PV := jF97 [1, 1, 1, 1, 1] (St.mk [(1, (AV.pv (PV.imm 6 (PV.agg [(PV.int .i64 i27), (PV.int .i64 i28), (PV.int .i64 i29), (PV.int .i64 i30), (PV.slice 6 l31)]) 0))), (4, (AV.pv (PV.bool b32))), (5, (AV.pv (PV.bool b33))), (6, (AV.pv (PV.bool b34)))] [(Ob.var false 4 (AV.pv (PV.agg [(PV.int .i64 i35), (PV.int .i64 i36), p37])))])
theorem J_expr_part_1_eq (i5 : Int) (i6 : Int) (i7 : Int) (i8 : Int) (l9 : List PV) (b10 : Bool) (i11 : Int) (i12 : Int) (p13 : PV) : J_expr_part_1 i5 i6 i7 i8 l9 b10 i11 i12 p13 =
  (bif (i6 == (0 : Int)) then (J_expr_part_2 i5 i6 i7 i8 l9 b10 true i11 i12 p13) else (bif (i5 == (1 : Int)) then (bif (decide (GT.gt i6 (0 : Int))) then (J_expr_part_2 i5 i6 i7 i8 l9 b10 (decide (i6 ≤ (15 : Int))) i11 i12 p13) else (J_expr_part_2 i5 i6 i7 i8 l9 b10 false i11 i12 p13)) else (J_expr_part_2 i5 i6 i7 i8 l9 b10 false i11 i12 p13))) := (T97.join [1, 1, 1] _).trans (by kernel_rfl)
theorem J_expr_part_2_eq (i14 : Int) (i15 : Int) (i16 : Int) (i17 : Int) (l18 : List PV) (b19 : Bool) (b20 : Bool) (i21 : Int) (i22 : Int) (p23 : PV) : J_expr_part_2 i14 i15 i16 i17 l18 b19 b20 i21 i22 p23 =
  (((((bif (i16 == (0 : Int)) then (bif (i17 == (0 : Int)) then (some true) else (some false)) else (some false))).bind (fun v24 => (some (PV.bool v24))))).bind (fun v25 => (c_b v25 (fun v26 => (bif v26 then (J_expr_part_3 i14 i15 i16 i17 l18 b19 b20 true i21 i22 p23) else (bif (i14 == (0 : Int)) then (((wc W n_val_May [(PV.agg [(PV.int .i64 i16), (PV.int .i64 i17)])])).bind (fun v38 => (c_b v38 (fun v39 => (J_expr_part_3 i14 i15 i16 i17 l18 b19 b20 v39 i21 i22 p23))))) else (J_expr_part_3 i14 i15 i16 i17 l18 b19 b20 false i21 i22 p23))))))) := (T97.join [1, 1, 1, 1] _).trans (by kernel_rfl)
theorem J_expr_part_3_eq (i27 : Int) (i28 : Int) (i29 : Int) (i30 : Int) (l31 : List PV) (b32 : Bool) (b33 : Bool) (b34 : Bool) (i35 : Int) (i36 : Int) (p37 : PV) : J_expr_part_3 i27 i28 i29 i30 l31 b32 b33 b34 i35 i36 p37 =
  (bif (decide (GE.ge i27 (0 : Int))) then (bif (decide (i27 < (11 : Int))) then (bif b32 then (bif b33 then (some (PV.bool b34)) else (some (PV.bool false))) else (some (PV.bool false))) else (some (PV.bool false))) else (some (PV.bool false))) := (T97.join [1, 1, 1, 1, 1] _).trans (by kernel_rfl)
theorem e_expr_part (a0_0 : Int) (a0_1 : Int) (a0_2 : Int) (a0_3 : Int) (a0_4 : List PV) : wc W n_expr_part [(PV.agg [(PV.int .i64 a0_0), (PV.int .i64 a0_1), (PV.int .i64 a0_2), (PV.int .i64 a0_3), (PV.slice 6 a0_4)])] =
  (((wc W n_expr_ways [(PV.int .i64 a0_0)])).bind (fun v1 => (c_g_i64_i64_p v1 (fun v2 v3 v4 => (bif (decide (GE.ge (((List.length a0_4) : Nat) : Int) v2)) then (J_expr_part_1 a0_0 a0_1 a0_2 a0_3 a0_4 (decide ((((List.length a0_4) : Nat) : Int) ≤ v3)) v2 v3 v4) else (J_expr_part_1 a0_0 a0_1 a0_2 a0_3 a0_4 false v2 v3 v4)))))) := go (by kernel_rfl) (by kernel_rfl) T97 (by kernel_rfl)
noncomputable def jF101 : Jn PV := (Classical.choose (exT fi101 (fin cfg fi101))).1
noncomputable def lF101 : Ln PV := (Classical.choose (exT fi101 (fin cfg fi101))).2
theorem T101 : Tied cfg W fi101 (fin cfg fi101) jF101 lF101 := Classical.choose_spec (exT fi101 (fin cfg fi101))
noncomputable def L_slices_IndexFunc_api_Expr_api_Expr_1 (l1 : List PV) (p2 : PV) (i3 : Int) (i4 : Int) : Option PV := lF101 [0, 1, 0, 1] 0 (St.mk [(0, (AV.pv (PV.slice 6 l1))), (1, (AV.pv p2)), (7, (AV.pv (PV.int .i64 i3))), (8, (AV.pv (PV.int .i64 i4)))] [])
theorem L_slices_IndexFunc_api_Expr_api_Expr_1_eq (l1 : List PV) (p2 : PV) (i3 : Int) (i4 : Int) : L_slices_IndexFunc_api_Expr_api_Expr_1 l1 p2 i3 i4 =
  (bif (decide (i4 < i3)) then (bif (decide ((0 : Int) ≤ i4)) then (((l1)[(Int.toNat i4)]?).bind (fun v5 => (c_g_i64_i64_i64_i64_s6 v5 (fun v6 v7 v8 v9 v10 => (((PV.asFn p2)).bind (fun v11 => (((wc W (Prod.fst v11) (((Prod.fst (Prod.snd v11)) ++ [(PV.agg [(PV.int .i64 v6), (PV.int .i64 v7), (PV.int .i64 v8), (PV.int .i64 v9), (PV.slice 6 v10)])]) ++ (Prod.snd (Prod.snd v11))))).bind (fun v12 => (c_b v12 (fun v13 => (bif v13 then (some (PV.int .i64 i4)) else (L_slices_IndexFunc_api_Expr_api_Expr_1 l1 p2 i3 (IntKind.wrap .i64 (i4 + (1 : Int) : Int)))))))))))))) else none) else (some (PV.int .i64 (-1 : Int)))) := (T101.loop [1, 0, 1, 0] 0 _ rfl).trans (by kernel_rfl)
theorem e_slices_IndexFunc_api_Expr_api_Expr (a0 : List PV) (a1 : PV) : wc W n_slices_IndexFunc_api_Expr_api_Expr [(PV.slice 6 a0), a1] =
  (L_slices_IndexFunc_api_Expr_api_Expr_1 a0 a1 (((List.length a0) : Nat) : Int) (0 : Int)) := go (by kernel_rfl) (by kernel_rfl) T101 (by kernel_rfl)
noncomputable def jF102 : Jn PV := (Classical.choose (exT fi102 (fin cfg fi102))).1
noncomputable def lF102 : Ln PV := (Classical.choose (exT fi102 (fin cfg fi102))).2
theorem T102 : Tied cfg W fi102 (fin cfg fi102) jF102 lF102 := Classical.choose_spec (exT fi102 (fin cfg fi102))
theorem e_val_True (a0_0 : Int) (a0_1 : Int) : wc W n_val_True [(PV.agg [(PV.int .i64 a0_0), (PV.int .i64 a0_1)])] =
  (bif (a0_0 == (0 : Int)) then (some (PV.bool (a0_1 != (0 : Int)))) else (some (PV.bool false))) := go (by kernel_rfl) (by kernel_rfl) T102 (by kernel_rfl)
noncomputable def jF103 : Jn PV := (Classical.choose (exT fi103 (fin cfg fi103))).1
noncomputable def lF103 : Ln PV := (Classical.choose (exT fi103 (fin cfg fi103))).2
theorem T103 : Tied cfg W fi103 (fin cfg fi103) jF103 lF103 := Classical.choose_spec (exT fi103 (fin cfg fi103))
theorem e_expr_Eval (a0_0 : Int) (a0_1 : Int) (a0_2 : Int) (a0_3 : Int) (a0_4 : List PV) (a1 : List PV) (a2 : List PV) : wc W n_expr_Eval [(PV.agg [(PV.int .i64 a0_0), (PV.int .i64 a0_1), (PV.int .i64 a0_2), (PV.int .i64 a0_3), (PV.slice 6 a0_4)]), (PV.slice 0 a1), (PV.slice 3 a2)] =
  (((wc W n_expr_May [(PV.agg [(PV.int .i64 a0_0), (PV.int .i64 a0_1), (PV.int .i64 a0_2), (PV.int .i64 a0_3), (PV.slice 6 a0_4)])])).bind (fun v1 => (c_b v1 (fun v2 => (bif (!v2) then (some (PV.agg [(PV.int .i64 (2 : Int)), (PV.int .i64 (0 : Int))])) else (((wc W n_expr_eval [(PV.agg [(PV.int .i64 a0_0), (PV.int .i64 a0_1), (PV.int .i64 a0_2), (PV.int .i64 a0_3), (PV.slice 6 a0_4)]), (PV.slice 0 a1), (PV.slice 3 a2)])).bind (fun v3 => (c_g_i64_i64 v3 (fun v4 v5 => (some (PV.agg [(PV.int .i64 v4), (PV.int .i64 v5)]))))))))))) := go (by kernel_rfl) (by kernel_rfl) T103 (by kernel_rfl)
noncomputable def jF104 : Jn PV := (Classical.choose (exT fi104 (fin cfg fi104))).1
noncomputable def lF104 : Ln PV := (Classical.choose (exT fi104 (fin cfg fi104))).2
theorem T104 : Tied cfg W fi104 (fin cfg fi104) jF104 lF104 := Classical.choose_spec (exT fi104 (fin cfg fi104))
noncomputable def J_slices_Grow_int_int_1 (l1 : List PV) (i2 : Int) (l3 : List PV) : Option PV := jF104 [1, 1] (St.mk [(0, (AV.pv (PV.slice 0 l1))), (1, (AV.pv (PV.int .i64 i2)))] [(Ob.row false 0 0 l3)])
theorem J_slices_Grow_int_int_1_eq (l1 : List PV) (i2 : Int) (l3 : List PV) : J_slices_Grow_int_int_1 l1 i2 l3 =
  none := (T104.join [1, 1] _).trans (by kernel_rfl)
theorem e_slices_Grow_int_int (a0 : List PV) (a1 : Int) : wc W n_slices_Grow_int_int [(PV.slice 0 a0), (PV.int .i64 a1)] =
  (bif (decide (a1 < (0 : Int))) then none else (J_slices_Grow_int_int_1 a0 a1 [])) := go (by kernel_rfl) (by kernel_rfl) T104 (by kernel_rfl)
noncomputable def jF104r0 : Jn (AV × List Ob) := (Classical.choose (exT fi104 (finO cfg fi104 true 0))).1
noncomputable def lF104r0 : Ln (AV × List Ob) := (Classical.choose (exT fi104 (finO cfg fi104 true 0))).2
theorem T104r0 : Tied cfg W fi104 (finO cfg fi104 true 0) jF104r0 lF104r0 := Classical.choose_spec (exT fi104 (finO cfg fi104 true 0))
noncomputable def J_slices_Grow_int_int_r0_1 (i1 : Int) (l2 : List PV) : Option (AV × List Ob) := jF104r0 [1, 1] (St.mk [(0, (AV.nil 0)), (1, (AV.pv (PV.int .i64 i1)))] [(Ob.row false 0 0 l2)])
theorem J_slices_Grow_int_int_r0_1_eq (i1 : Int) (l2 : List PV) : J_slices_Grow_int_int_r0_1 i1 l2 =
  (bif (decide (GT.gt (IntKind.wrap .i64 (i1 - (0 : Int) : Int)) (0 : Int))) then (bif ((((decide ((0 : Int) < (IntKind.wrap .i64 (i1 - (0 : Int) : Int)))) && (decide ((IntKind.wrap .i64 (i1 - (0 : Int) : Int)) ≤ (4294967296 : Int)))) && true) && true) then (some ((AV.view 0 0 none), [(Ob.row false 0 0 [])])) else none) else (some ((AV.view 0 0 none), [(Ob.row false 0 0 [])]))) := (T104r0.join [1, 1] _).trans (by kernel_rfl)
theorem o_slices_Grow_int_int_r0_1 (i0 : Int) : W n_slices_Grow_int_int true [(AV.nil 0), (AV.pv (PV.int .i64 i0))] [] =
  (bif (decide (i0 < (0 : Int))) then none else (J_slices_Grow_int_int_r0_1 i0 [])) := goO (by kernel_rfl) (by kernel_rfl) T104r0 rfl (by kernel_rfl)
noncomputable def jF105 : Jn PV := (Classical.choose (exT fi105 (fin cfg fi105))).1
noncomputable def lF105 : Ln PV := (Classical.choose (exT fi105 (fin cfg fi105))).2
theorem T105 : Tied cfg W fi105 (fin cfg fi105) jF105 lF105 := Classical.choose_spec (exT fi105 (fin cfg fi105))
noncomputable def J_slices_Grow_api_Val_api_Val_1 (l1 : List PV) (i2 : Int) (l3 : List PV) : Option PV := jF105 [1, 1] (St.mk [(0, (AV.pv (PV.slice 3 l1))), (1, (AV.pv (PV.int .i64 i2)))] [(Ob.row false 0 3 l3)])
theorem J_slices_Grow_api_Val_api_Val_1_eq (l1 : List PV) (i2 : Int) (l3 : List PV) : J_slices_Grow_api_Val_api_Val_1 l1 i2 l3 =
  none := (T105.join [1, 1] _).trans (by kernel_rfl)
theorem e_slices_Grow_api_Val_api_Val (a0 : List PV) (a1 : Int) : wc W n_slices_Grow_api_Val_api_Val [(PV.slice 3 a0), (PV.int .i64 a1)] =
  (bif (decide (a1 < (0 : Int))) then none else (J_slices_Grow_api_Val_api_Val_1 a0 a1 [])) := go (by kernel_rfl) (by kernel_rfl) T105 (by kernel_rfl)
noncomputable def jF105r0 : Jn (AV × List Ob) := (Classical.choose (exT fi105 (finO cfg fi105 true 0))).1
noncomputable def lF105r0 : Ln (AV × List Ob) := (Classical.choose (exT fi105 (finO cfg fi105 true 0))).2
theorem T105r0 : Tied cfg W fi105 (finO cfg fi105 true 0) jF105r0 lF105r0 := Classical.choose_spec (exT fi105 (finO cfg fi105 true 0))
noncomputable def J_slices_Grow_api_Val_api_Val_r0_1 (i1 : Int) (l2 : List PV) : Option (AV × List Ob) := jF105r0 [1, 1] (St.mk [(0, (AV.nil 3)), (1, (AV.pv (PV.int .i64 i1)))] [(Ob.row false 0 3 l2)])
theorem J_slices_Grow_api_Val_api_Val_r0_1_eq (i1 : Int) (l2 : List PV) : J_slices_Grow_api_Val_api_Val_r0_1 i1 l2 =
  (bif (decide (GT.gt (IntKind.wrap .i64 (i1 - (0 : Int) : Int)) (0 : Int))) then (bif ((((decide ((0 : Int) < (IntKind.wrap .i64 (i1 - (0 : Int) : Int)))) && (decide ((IntKind.wrap .i64 (i1 - (0 : Int) : Int)) ≤ (4294967296 : Int)))) && true) && true) then (some ((AV.view 0 0 none), [(Ob.row false 0 3 [])])) else none) else (some ((AV.view 0 0 none), [(Ob.row false 0 3 [])]))) := (T105r0.join [1, 1] _).trans (by kernel_rfl)
theorem o_slices_Grow_api_Val_api_Val_r0_1 (i0 : Int) : W n_slices_Grow_api_Val_api_Val true [(AV.nil 3), (AV.pv (PV.int .i64 i0))] [] =
  (bif (decide (i0 < (0 : Int))) then none else (J_slices_Grow_api_Val_api_Val_r0_1 i0 [])) := goO (by kernel_rfl) (by kernel_rfl) T105r0 rfl (by kernel_rfl)
noncomputable def jF152 : Jn PV := (Classical.choose (exT fi152 (fin cfg fi152))).1
noncomputable def lF152 : Ln PV := (Classical.choose (exT fi152 (fin cfg fi152))).2
theorem T152 : Tied cfg W fi152 (fin cfg fi152) jF152 lF152 := Classical.choose_spec (exT fi152 (fin cfg fi152))
theorem e_val_Eq (a0_0 : Int) (a0_1 : Int) (a1_0 : Int) (a1_1 : Int) : wc W n_val_Eq [(PV.agg [(PV.int .i64 a0_0), (PV.int .i64 a0_1)]), (PV.agg [(PV.int .i64 a1_0), (PV.int .i64 a1_1)])] =
  (((wc W n_val_odd [(PV.slice 3 [(PV.agg [(PV.int .i64 a0_0), (PV.int .i64 a0_1)]), (PV.agg [(PV.int .i64 a1_0), (PV.int .i64 a1_1)])])])).bind (fun v1 => (((PV.asTup v1)).bind (fun v2 => (((v2)[0]?).bind (fun v3 => (c_g_i64_i64 v3 (fun v4 v5 => (((PV.asTup v1)).bind (fun v6 => (((v6)[1]?).bind (fun v7 => (c_b v7 (fun v8 => (bif v8 then (some (PV.agg [(PV.int .i64 v4), (PV.int .i64 v5)])) else (((((bif (a0_0 == a1_0) then (bif (a0_1 == a1_1) then (some true) else (some false)) else (some false))).bind (fun v9 => (some (PV.bool v9))))).bind (fun v10 => (c_b v10 (fun v11 => (((wc W n_val_of [(PV.bool v11)])).bind (fun v12 => (c_g_i64_i64 v12 (fun v13 v14 => (some (PV.agg [(PV.int .i64 v13), (PV.int .i64 v14)]))))))))))))))))))))))))) := go (by kernel_rfl) (by kernel_rfl) T152 (by kernel_rfl)
noncomputable def jF157 : Jn PV := (Classical.choose (exT fi157 (fin cfg fi157))).1
noncomputable def lF157 : Ln PV := (Classical.choose (exT fi157 (fin cfg fi157))).2
theorem T157 : Tied cfg W fi157 (fin cfg fi157) jF157 lF157 := Classical.choose_spec (exT fi157 (fin cfg fi157))
theorem e_val_some_api_Val (a0 : List PV) (a1 : PV) : wc W n_val_some_api_Val [(PV.slice 3 a0), a1] =
  (((wc W n_slices_ContainsFunc_api_Val_api_Val_c5fc [(PV.slice 3 a0), a1])).bind (fun v1 => (c_b v1 (fun v2 => (some (PV.bool v2)))))) := go (by kernel_rfl) (by kernel_rfl) T157 (by kernel_rfl)
noncomputable def jF158 : Jn PV := (Classical.choose (exT fi158 (fin cfg fi158))).1
noncomputable def lF158 : Ln PV := (Classical.choose (exT fi158 (fin cfg fi158))).2
theorem T158 : Tied cfg W fi158 (fin cfg fi158) jF158 lF158 := Classical.choose_spec (exT fi158 (fin cfg fi158))
theorem e_val_kind (a0 : Int) : wc W n_val_kind [(PV.int .i64 a0)] =
  (some (PV.fn n_val_kind_1 [] [(PV.imm 0 (PV.int .i64 a0) 0)])) := go (by kernel_rfl) (by kernel_rfl) T158 (by kernel_rfl)
noncomputable def jF159 : Jn PV := (Classical.choose (exT fi159 (fin cfg fi159))).1
noncomputable def lF159 : Ln PV := (Classical.choose (exT fi159 (fin cfg fi159))).2
theorem T159 : Tied cfg W fi159 (fin cfg fi159) jF159 lF159 := Classical.choose_spec (exT fi159 (fin cfg fi159))
theorem e_val_bad  : wc W n_val_bad [] =
  (some (PV.agg [(PV.int .i64 (2 : Int)), (PV.int .i64 (0 : Int))])) := go (by kernel_rfl) (by kernel_rfl) T159 (by kernel_rfl)
noncomputable def jF161 : Jn PV := (Classical.choose (exT fi161 (fin cfg fi161))).1
noncomputable def lF161 : Ln PV := (Classical.choose (exT fi161 (fin cfg fi161))).2
theorem T161 : Tied cfg W fi161 (fin cfg fi161) jF161 lF161 := Classical.choose_spec (exT fi161 (fin cfg fi161))
theorem e_val_null  : wc W n_val_null [] =
  (some (PV.agg [(PV.int .i64 (1 : Int)), (PV.int .i64 (0 : Int))])) := go (by kernel_rfl) (by kernel_rfl) T161 (by kernel_rfl)
noncomputable def jF163 : Jn PV := (Classical.choose (exT fi163 (fin cfg fi163))).1
noncomputable def lF163 : Ln PV := (Classical.choose (exT fi163 (fin cfg fi163))).2
theorem T163 : Tied cfg W fi163 (fin cfg fi163) jF163 lF163 := Classical.choose_spec (exT fi163 (fin cfg fi163))
theorem e_expr_ways (a0 : Int) : wc W n_expr_ways [(PV.int .i64 a0)] =
  (bif (a0 == (2 : Int)) then (((wc W n_expr_two [(PV.fn n_val_Add [] [])])).bind (fun v1 => (c_g_i64_i64_p v1 (fun v2 v3 v4 => (some (PV.agg [(PV.int .i64 v2), (PV.int .i64 v3), v4])))))) else (bif (a0 == (3 : Int)) then (((wc W n_expr_two [(PV.fn n_val_Sub [] [])])).bind (fun v5 => (c_g_i64_i64_p v5 (fun v6 v7 v8 => (some (PV.agg [(PV.int .i64 v6), (PV.int .i64 v7), v8])))))) else (bif (a0 == (4 : Int)) then (((wc W n_expr_two [(PV.fn n_val_Mul [] [])])).bind (fun v9 => (c_g_i64_i64_p v9 (fun v10 v11 v12 => (some (PV.agg [(PV.int .i64 v10), (PV.int .i64 v11), v12])))))) else (bif (a0 == (5 : Int)) then (((wc W n_expr_two [(PV.fn n_val_Div [] [])])).bind (fun v13 => (c_g_i64_i64_p v13 (fun v14 v15 v16 => (some (PV.agg [(PV.int .i64 v14), (PV.int .i64 v15), v16])))))) else (bif (a0 == (6 : Int)) then (((wc W n_expr_two [(PV.fn n_val_Eq [] [])])).bind (fun v17 => (c_g_i64_i64_p v17 (fun v18 v19 v20 => (some (PV.agg [(PV.int .i64 v18), (PV.int .i64 v19), v20])))))) else (bif (a0 == (7 : Int)) then (((wc W n_expr_two [(PV.fn n_val_Lt [] [])])).bind (fun v21 => (c_g_i64_i64_p v21 (fun v22 v23 v24 => (some (PV.agg [(PV.int .i64 v22), (PV.int .i64 v23), v24])))))) else (bif (a0 == (8 : Int)) then (some (PV.agg [(PV.int .i64 (0 : Int)), (PV.int .i64 (4 : Int)), (PV.fn n_expr_ways_1 [] [])])) else (bif (a0 == (9 : Int)) then (some (PV.agg [(PV.int .i64 (0 : Int)), (PV.int .i64 (4 : Int)), (PV.fn n_expr_ways_2 [] [])])) else (bif (a0 == (10 : Int)) then (some (PV.agg [(PV.int .i64 (1 : Int)), (PV.int .i64 (1 : Int)), (PV.fn n_expr_ways_3 [] [])])) else (some (PV.agg [(PV.int .i64 (0 : Int)), (PV.int .i64 (0 : Int)), PV.nilfn]))))))))))) := go (by kernel_rfl) (by kernel_rfl) T163 (by kernel_rfl)
noncomputable def jF175 : Jn PV := (Classical.choose (exT fi175 (fin cfg fi175))).1
noncomputable def lF175 : Ln PV := (Classical.choose (exT fi175 (fin cfg fi175))).2
theorem T175 : Tied cfg W fi175 (fin cfg fi175) jF175 lF175 := Classical.choose_spec (exT fi175 (fin cfg fi175))
noncomputable def J_expr_eval_1 (l3 : List PV) (i4 : Int) (i5 : Int) (i6 : Int) : Option PV := jF175 [1, 1, 0, 1, 1, 1, 0, 1, 0, 1] (St.mk [(2, (AV.pv (PV.slice 3 l3))), (6, (AV.own 0 0)), (7, (AV.pv (PV.int .i64 i4)))] [(Ob.var false 3 (AV.pv (PV.agg [(PV.int .i64 i5), (PV.int .i64 i6)])))])
noncomputable def L_expr_eval_2 (l7 : List PV) (l8 : List PV) (i9 : Int) (i10 : Int) (i11 : Int) (i12 : Int) (l13 : List PV) (l14 : List PV) (i15 : Int) (i16 : Int) (i17 : Int) (i18 : Int) (l19 : List PV) : Option PV := lF175 [0, 1, 0, 1, 1, 1] 2 (St.mk [(1, (AV.pv (PV.slice 0 l7))), (2, (AV.pv (PV.slice 3 l8))), (3, (AV.pv (PV.imm 6 (PV.agg [(PV.int .i64 i9), (PV.int .i64 i10), (PV.int .i64 i11), (PV.int .i64 i12), (PV.slice 6 l13)]) 0))), (6, (AV.own 0 0)), (8, (AV.view 1 0 none)), (37, (AV.pv (PV.slice 6 l14))), (38, (AV.pv (PV.int .i64 i15))), (39, (AV.pv (PV.int .i64 i16)))] [(Ob.var false 3 (AV.pv (PV.agg [(PV.int .i64 i17), (PV.int .i64 i18)]))), (Ob.row false 0 3 l19)])
theorem J_expr_eval_1_eq (l3 : List PV) (i4 : Int) (i5 : Int) (i6 : Int) : J_expr_eval_1 l3 i4 i5 i6 =
  (bif (decide ((0 : Int) ≤ i4)) then (((l3)[(Int.toNat i4)]?).bind (fun v20 => (c_g_i64_i64 v20 (fun v21 v22 => (some (PV.agg [(PV.int .i64 v21), (PV.int .i64 v22)])))))) else none) := (T175.join [1, 0, 1, 0, 1, 1, 1, 0, 1, 1] _).trans (by kernel_rfl)
theorem L_expr_eval_2_eq (l7 : List PV) (l8 : List PV) (i9 : Int) (i10 : Int) (i11 : Int) (i12 : Int) (l13 : List PV) (l14 : List PV) (i15 : Int) (i16 : Int) (i17 : Int) (i18 : Int) (l19 : List PV) : L_expr_eval_2 l7 l8 i9 i10 i11 i12 l13 l14 i15 i16 i17 i18 l19 =
  (bif (decide (i16 < i15)) then (bif (decide ((0 : Int) ≤ i16)) then (((l14)[(Int.toNat i16)]?).bind (fun v23 => (c_g_i64_i64_i64_i64_s6 v23 (fun v24 v25 v26 v27 v28 => (((wc W n_expr_eval [(PV.agg [(PV.int .i64 v24), (PV.int .i64 v25), (PV.int .i64 v26), (PV.int .i64 v27), (PV.slice 6 v28)]), (PV.slice 0 l7), (PV.slice 3 l8)])).bind (fun v29 => (c_g_i64_i64 v29 (fun v30 v31 => (bif (true && (decide (((List.length l19) + 1 : Nat) ≤ 4294967296))) then (L_expr_eval_2 l7 l8 i9 i10 i11 i12 l13 l14 i15 (IntKind.wrap .i64 (i16 + (1 : Int) : Int)) i17 i18 (l19 ++ [(PV.agg [(PV.int .i64 v30), (PV.int .i64 v31)])])) else none))))))))) else none) else (((wc W n_expr_ways [(PV.int .i64 i9)])).bind (fun v32 => (c_g_i64_i64_p v32 (fun v33 v34 v35 => (((PV.asFn v35)).bind (fun v36 => (((wc W (Prod.fst v36) (((Prod.fst (Prod.snd v36)) ++ [(PV.slice 3 l19)]) ++ (Prod.snd (Prod.snd v36))))).bind (fun v37 => (c_g_i64_i64 v37 (fun v38 v39 => (some (PV.agg [(PV.int .i64 v38), (PV.int .i64 v39)]))))))))))))) := (T175.loop [1, 1, 1, 0, 1, 0] 2 _ rfl).trans (by kernel_rfl)
theorem e_expr_eval (a0_0 : Int) (a0_1 : Int) (a0_2 : Int) (a0_3 : Int) (a0_4 : List PV) (a1 : List PV) (a2 : List PV) : wc W n_expr_eval [(PV.agg [(PV.int .i64 a0_0), (PV.int .i64 a0_1), (PV.int .i64 a0_2), (PV.int .i64 a0_3), (PV.slice 6 a0_4)]), (PV.slice 0 a1), (PV.slice 3 a2)] =
  (bif (a0_0 == (0 : Int)) then (some (PV.agg [(PV.int .i64 a0_2), (PV.int .i64 a0_3)])) else (bif (a0_0 == (1 : Int)) then (((wc W n_slices_Index_int_int [(PV.slice 0 a1), (PV.int .i64 a0_1)])).bind (fun v1 => (c_i64 v1 (fun v2 => (bif (decide (v2 < (0 : Int))) then (some (PV.agg [(PV.int .i64 (2 : Int)), (PV.int .i64 (0 : Int))])) else (bif (decide (GE.ge v2 (((List.length a2) : Nat) : Int))) then (some (PV.agg [(PV.int .i64 (2 : Int)), (PV.int .i64 (0 : Int))])) else (J_expr_eval_1 a2 v2 (0 : Int) (0 : Int)))))))) else (L_expr_eval_2 a1 a2 a0_0 a0_1 a0_2 a0_3 a0_4 a0_4 (((List.length a0_4) : Nat) : Int) (0 : Int) (0 : Int) (0 : Int) []))) := go (by kernel_rfl) (by kernel_rfl) T175 (by kernel_rfl)
noncomputable def jF204 : Jn PV := (Classical.choose (exT fi204 (fin cfg fi204))).1
noncomputable def lF204 : Ln PV := (Classical.choose (exT fi204 (fin cfg fi204))).2
theorem T204 : Tied cfg W fi204 (fin cfg fi204) jF204 lF204 := Classical.choose_spec (exT fi204 (fin cfg fi204))
theorem e_val_fine (a0_0 : Int) (a0_1 : Int) : wc W n_val_fine [(PV.agg [(PV.int .i64 a0_0), (PV.int .i64 a0_1)])] =
  (((wc W n_val_May [(PV.agg [(PV.int .i64 a0_0), (PV.int .i64 a0_1)])])).bind (fun v1 => (c_b v1 (fun v2 => (bif (!v2) then (((wc W n_val_bad [])).bind (fun v3 => (c_g_i64_i64 v3 (fun v4 v5 => (some (PV.agg [(PV.int .i64 v4), (PV.int .i64 v5)])))))) else (some (PV.agg [(PV.int .i64 a0_0), (PV.int .i64 a0_1)]))))))) := go (by kernel_rfl) (by kernel_rfl) T204 (by kernel_rfl)
noncomputable def jF207 : Jn PV := (Classical.choose (exT fi207 (fin cfg fi207))).1
noncomputable def lF207 : Ln PV := (Classical.choose (exT fi207 (fin cfg fi207))).2
theorem T207 : Tied cfg W fi207 (fin cfg fi207) jF207 lF207 := Classical.choose_spec (exT fi207 (fin cfg fi207))
theorem e_val_odd (a0 : List PV) : wc W n_val_odd [(PV.slice 3 a0)] =
  (((wc W n_val_kind [(PV.int .i64 (2 : Int))])).bind (fun v1 => (((wc W n_val_some_api_Val [(PV.slice 3 a0), v1])).bind (fun v2 => (c_b v2 (fun v3 => (bif v3 then (((wc W n_val_bad [])).bind (fun v4 => (c_g_i64_i64 v4 (fun v5 v6 => (some (PV.tup [(PV.agg [(PV.int .i64 v5), (PV.int .i64 v6)]), (PV.bool true)])))))) else (((wc W n_val_kind [(PV.int .i64 (1 : Int))])).bind (fun v7 => (((wc W n_val_some_api_Val [(PV.slice 3 a0), v7])).bind (fun v8 => (c_b v8 (fun v9 => (bif v9 then (((wc W n_val_null [])).bind (fun v10 => (c_g_i64_i64 v10 (fun v11 v12 => (some (PV.tup [(PV.agg [(PV.int .i64 v11), (PV.int .i64 v12)]), (PV.bool true)])))))) else (some (PV.tup [(PV.agg [(PV.int .i64 (0 : Int)), (PV.int .i64 (0 : Int))]), (PV.bool false)])))))))))))))))) := go (by kernel_rfl) (by kernel_rfl) T207 (by kernel_rfl)
noncomputable def jF208 : Jn PV := (Classical.choose (exT fi208 (fin cfg fi208))).1
noncomputable def lF208 : Ln PV := (Classical.choose (exT fi208 (fin cfg fi208))).2
theorem T208 : Tied cfg W fi208 (fin cfg fi208) jF208 lF208 := Classical.choose_spec (exT fi208 (fin cfg fi208))
theorem e_val_of (a0 : Bool) : wc W n_val_of [(PV.bool a0)] =
  (bif a0 then (((wc W n_val_Of [(PV.int .i64 (1 : Int))])).bind (fun v1 => (c_g_i64_i64 v1 (fun v2 v3 => (some (PV.agg [(PV.int .i64 v2), (PV.int .i64 v3)])))))) else (((wc W n_val_Of [(PV.int .i64 (0 : Int))])).bind (fun v4 => (c_g_i64_i64 v4 (fun v5 v6 => (some (PV.agg [(PV.int .i64 v5), (PV.int .i64 v6)]))))))) := go (by kernel_rfl) (by kernel_rfl) T208 (by kernel_rfl)
noncomputable def jF217 : Jn PV := (Classical.choose (exT fi217 (fin cfg fi217))).1
noncomputable def lF217 : Ln PV := (Classical.choose (exT fi217 (fin cfg fi217))).2
theorem T217 : Tied cfg W fi217 (fin cfg fi217) jF217 lF217 := Classical.choose_spec (exT fi217 (fin cfg fi217))
theorem e_val_kind_1 (a0_0 : Int) (a0_1 : Int) (c0 : Int) : wc W n_val_kind_1 [(PV.agg [(PV.int .i64 a0_0), (PV.int .i64 a0_1)]), (PV.imm 0 (PV.int .i64 c0) 0)] =
  (((wc W n_val_fine [(PV.agg [(PV.int .i64 a0_0), (PV.int .i64 a0_1)])])).bind (fun v1 => (c_g_i64_i64 v1 (fun v2 v3 => (some (PV.bool (v2 == c0))))))) := go (by kernel_rfl) (by kernel_rfl) T217 (by kernel_rfl)
noncomputable def jF220 : Jn PV := (Classical.choose (exT fi220 (fin cfg fi220))).1
noncomputable def lF220 : Ln PV := (Classical.choose (exT fi220 (fin cfg fi220))).2
theorem T220 : Tied cfg W fi220 (fin cfg fi220) jF220 lF220 := Classical.choose_spec (exT fi220 (fin cfg fi220))
theorem e_expr_two (a0 : PV) : wc W n_expr_two [a0] =
  (bif (PV.okSh 0 a0) then (some (PV.agg [(PV.int .i64 (2 : Int)), (PV.int .i64 (2 : Int)), (PV.fn n_expr_two_1 [] [(PV.imm 0 a0 0)])])) else none) := go (by kernel_rfl) (by kernel_rfl) T220 (by kernel_rfl)
noncomputable def jF221 : Jn PV := (Classical.choose (exT fi221 (fin cfg fi221))).1
noncomputable def lF221 : Ln PV := (Classical.choose (exT fi221 (fin cfg fi221))).2
theorem T221 : Tied cfg W fi221 (fin cfg fi221) jF221 lF221 := Classical.choose_spec (exT fi221 (fin cfg fi221))
theorem e_val_Add (a0_0 : Int) (a0_1 : Int) (a1_0 : Int) (a1_1 : Int) : wc W n_val_Add [(PV.agg [(PV.int .i64 a0_0), (PV.int .i64 a0_1)]), (PV.agg [(PV.int .i64 a1_0), (PV.int .i64 a1_1)])] =
  (((wc W n_val_reckon [(PV.agg [(PV.int .i64 a0_0), (PV.int .i64 a0_1)]), (PV.agg [(PV.int .i64 a1_0), (PV.int .i64 a1_1)]), (PV.fn n_val_Add_1 [] [])])).bind (fun v1 => (c_g_i64_i64 v1 (fun v2 v3 => (some (PV.agg [(PV.int .i64 v2), (PV.int .i64 v3)])))))) := go (by kernel_rfl) (by kernel_rfl) T221 (by kernel_rfl)
noncomputable def jF222 : Jn PV := (Classical.choose (exT fi222 (fin cfg fi222))).1
noncomputable def lF222 : Ln PV := (Classical.choose (exT fi222 (fin cfg fi222))).2
theorem T222 : Tied cfg W fi222 (fin cfg fi222) jF222 lF222 := Classical.choose_spec (exT fi222 (fin cfg fi222))
theorem e_val_Sub (a0_0 : Int) (a0_1 : Int) (a1_0 : Int) (a1_1 : Int) : wc W n_val_Sub [(PV.agg [(PV.int .i64 a0_0), (PV.int .i64 a0_1)]), (PV.agg [(PV.int .i64 a1_0), (PV.int .i64 a1_1)])] =
  (((wc W n_val_reckon [(PV.agg [(PV.int .i64 a0_0), (PV.int .i64 a0_1)]), (PV.agg [(PV.int .i64 a1_0), (PV.int .i64 a1_1)]), (PV.fn n_val_Sub_1 [] [])])).bind (fun v1 => (c_g_i64_i64 v1 (fun v2 v3 => (some (PV.agg [(PV.int .i64 v2), (PV.int .i64 v3)])))))) := go (by kernel_rfl) (by kernel_rfl) T222 (by kernel_rfl)
noncomputable def jF223 : Jn PV := (Classical.choose (exT fi223 (fin cfg fi223))).1
noncomputable def lF223 : Ln PV := (Classical.choose (exT fi223 (fin cfg fi223))).2
theorem T223 : Tied cfg W fi223 (fin cfg fi223) jF223 lF223 := Classical.choose_spec (exT fi223 (fin cfg fi223))
theorem e_val_Mul (a0_0 : Int) (a0_1 : Int) (a1_0 : Int) (a1_1 : Int) : wc W n_val_Mul [(PV.agg [(PV.int .i64 a0_0), (PV.int .i64 a0_1)]), (PV.agg [(PV.int .i64 a1_0), (PV.int .i64 a1_1)])] =
  (((wc W n_val_reckon [(PV.agg [(PV.int .i64 a0_0), (PV.int .i64 a0_1)]), (PV.agg [(PV.int .i64 a1_0), (PV.int .i64 a1_1)]), (PV.fn n_val_Mul_1 [] [])])).bind (fun v1 => (c_g_i64_i64 v1 (fun v2 v3 => (some (PV.agg [(PV.int .i64 v2), (PV.int .i64 v3)])))))) := go (by kernel_rfl) (by kernel_rfl) T223 (by kernel_rfl)
noncomputable def jF224 : Jn PV := (Classical.choose (exT fi224 (fin cfg fi224))).1
noncomputable def lF224 : Ln PV := (Classical.choose (exT fi224 (fin cfg fi224))).2
theorem T224 : Tied cfg W fi224 (fin cfg fi224) jF224 lF224 := Classical.choose_spec (exT fi224 (fin cfg fi224))
theorem e_val_Div (a0_0 : Int) (a0_1 : Int) (a1_0 : Int) (a1_1 : Int) : wc W n_val_Div [(PV.agg [(PV.int .i64 a0_0), (PV.int .i64 a0_1)]), (PV.agg [(PV.int .i64 a1_0), (PV.int .i64 a1_1)])] =
  (((wc W n_val_reckon [(PV.agg [(PV.int .i64 a0_0), (PV.int .i64 a0_1)]), (PV.agg [(PV.int .i64 a1_0), (PV.int .i64 a1_1)]), (PV.fn n_val_Div_1 [] [])])).bind (fun v1 => (c_g_i64_i64 v1 (fun v2 v3 => (some (PV.agg [(PV.int .i64 v2), (PV.int .i64 v3)])))))) := go (by kernel_rfl) (by kernel_rfl) T224 (by kernel_rfl)
noncomputable def jF225 : Jn PV := (Classical.choose (exT fi225 (fin cfg fi225))).1
noncomputable def lF225 : Ln PV := (Classical.choose (exT fi225 (fin cfg fi225))).2
theorem T225 : Tied cfg W fi225 (fin cfg fi225) jF225 lF225 := Classical.choose_spec (exT fi225 (fin cfg fi225))
theorem e_val_Lt (a0_0 : Int) (a0_1 : Int) (a1_0 : Int) (a1_1 : Int) : wc W n_val_Lt [(PV.agg [(PV.int .i64 a0_0), (PV.int .i64 a0_1)]), (PV.agg [(PV.int .i64 a1_0), (PV.int .i64 a1_1)])] =
  (((wc W n_val_odd [(PV.slice 3 [(PV.agg [(PV.int .i64 a0_0), (PV.int .i64 a0_1)]), (PV.agg [(PV.int .i64 a1_0), (PV.int .i64 a1_1)])])])).bind (fun v1 => (((PV.asTup v1)).bind (fun v2 => (((v2)[0]?).bind (fun v3 => (c_g_i64_i64 v3 (fun v4 v5 => (((PV.asTup v1)).bind (fun v6 => (((v6)[1]?).bind (fun v7 => (c_b v7 (fun v8 => (bif v8 then (some (PV.agg [(PV.int .i64 v4), (PV.int .i64 v5)])) else (((wc W n_val_of [(PV.bool (decide (a0_1 < a1_1)))])).bind (fun v9 => (c_g_i64_i64 v9 (fun v10 v11 => (some (PV.agg [(PV.int .i64 v10), (PV.int .i64 v11)]))))))))))))))))))))) := go (by kernel_rfl) (by kernel_rfl) T225 (by kernel_rfl)
noncomputable def jF226 : Jn PV := (Classical.choose (exT fi226 (fin cfg fi226))).1
noncomputable def lF226 : Ln PV := (Classical.choose (exT fi226 (fin cfg fi226))).2
theorem T226 : Tied cfg W fi226 (fin cfg fi226) jF226 lF226 := Classical.choose_spec (exT fi226 (fin cfg fi226))
theorem e_expr_ways_1 (a0 : List PV) : wc W n_expr_ways_1 [(PV.slice 3 a0)] =
  (((wc W n_val_And [(PV.slice 3 a0)])).bind (fun v1 => (c_g_i64_i64 v1 (fun v2 v3 => (some (PV.agg [(PV.int .i64 v2), (PV.int .i64 v3)])))))) := go (by kernel_rfl) (by kernel_rfl) T226 (by kernel_rfl)
noncomputable def jF227 : Jn PV := (Classical.choose (exT fi227 (fin cfg fi227))).1
noncomputable def lF227 : Ln PV := (Classical.choose (exT fi227 (fin cfg fi227))).2
theorem T227 : Tied cfg W fi227 (fin cfg fi227) jF227 lF227 := Classical.choose_spec (exT fi227 (fin cfg fi227))
theorem e_val_And (a0 : List PV) : wc W n_val_And [(PV.slice 3 a0)] =
  (((wc W n_val_Of [(PV.int .i64 (0 : Int))])).bind (fun v1 => (c_g_i64_i64 v1 (fun v2 v3 => (((wc W n_val_Of [(PV.int .i64 (1 : Int))])).bind (fun v4 => (c_g_i64_i64 v4 (fun v5 v6 => (((wc W n_val_three [(PV.slice 3 a0), (PV.fn n_val_isFalse [] []), (PV.agg [(PV.int .i64 v2), (PV.int .i64 v3)]), (PV.agg [(PV.int .i64 v5), (PV.int .i64 v6)])])).bind (fun v7 => (c_g_i64_i64 v7 (fun v8 v9 => (some (PV.agg [(PV.int .i64 v8), (PV.int .i64 v9)])))))))))))))) := go (by kernel_rfl) (by kernel_rfl) T227 (by kernel_rfl)
noncomputable def jF228 : Jn PV := (Classical.choose (exT fi228 (fin cfg fi228))).1
noncomputable def lF228 : Ln PV := (Classical.choose (exT fi228 (fin cfg fi228))).2
theorem T228 : Tied cfg W fi228 (fin cfg fi228) jF228 lF228 := Classical.choose_spec (exT fi228 (fin cfg fi228))
theorem e_expr_ways_2 (a0 : List PV) : wc W n_expr_ways_2 [(PV.slice 3 a0)] =
  (((wc W n_val_Or [(PV.slice 3 a0)])).bind (fun v1 => (c_g_i64_i64 v1 (fun v2 v3 => (some (PV.agg [(PV.int .i64 v2), (PV.int .i64 v3)])))))) := go (by kernel_rfl) (by kernel_rfl) T228 (by kernel_rfl)
noncomputable def jF229 : Jn PV := (Classical.choose (exT fi229 (fin cfg fi229))).1
noncomputable def lF229 : Ln PV := (Classical.choose (exT fi229 (fin cfg fi229))).2
theorem T229 : Tied cfg W fi229 (fin cfg fi229) jF229 lF229 := Classical.choose_spec (exT fi229 (fin cfg fi229))
theorem e_val_Or (a0 : List PV) : wc W n_val_Or [(PV.slice 3 a0)] =
  (((wc W n_val_Of [(PV.int .i64 (1 : Int))])).bind (fun v1 => (c_g_i64_i64 v1 (fun v2 v3 => (((wc W n_val_Of [(PV.int .i64 (0 : Int))])).bind (fun v4 => (c_g_i64_i64 v4 (fun v5 v6 => (((wc W n_val_three [(PV.slice 3 a0), (PV.fn n_val_True [] []), (PV.agg [(PV.int .i64 v2), (PV.int .i64 v3)]), (PV.agg [(PV.int .i64 v5), (PV.int .i64 v6)])])).bind (fun v7 => (c_g_i64_i64 v7 (fun v8 v9 => (some (PV.agg [(PV.int .i64 v8), (PV.int .i64 v9)])))))))))))))) := go (by kernel_rfl) (by kernel_rfl) T229 (by kernel_rfl)
noncomputable def jF230 : Jn PV := (Classical.choose (exT fi230 (fin cfg fi230))).1
noncomputable def lF230 : Ln PV := (Classical.choose (exT fi230 (fin cfg fi230))).2
theorem T230 : Tied cfg W fi230 (fin cfg fi230) jF230 lF230 := Classical.choose_spec (exT fi230 (fin cfg fi230))
theorem e_expr_ways_3 (a0 : List PV) : wc W n_expr_ways_3 [(PV.slice 3 a0)] =
  (((a0)[0]?).bind (fun v1 => (c_g_i64_i64 v1 (fun v2 v3 => (((wc W n_val_Not [(PV.agg [(PV.int .i64 v2), (PV.int .i64 v3)])])).bind (fun v4 => (c_g_i64_i64 v4 (fun v5 v6 => (some (PV.agg [(PV.int .i64 v5), (PV.int .i64 v6)])))))))))) := go (by kernel_rfl) (by kernel_rfl) T230 (by kernel_rfl)
noncomputable def jF231 : Jn PV := (Classical.choose (exT fi231 (fin cfg fi231))).1
noncomputable def lF231 : Ln PV := (Classical.choose (exT fi231 (fin cfg fi231))).2
theorem T231 : Tied cfg W fi231 (fin cfg fi231) jF231 lF231 := Classical.choose_spec (exT fi231 (fin cfg fi231))
theorem e_val_Not (a0_0 : Int) (a0_1 : Int) : wc W n_val_Not [(PV.agg [(PV.int .i64 a0_0), (PV.int .i64 a0_1)])] =
  (((wc W n_val_odd [(PV.slice 3 [(PV.agg [(PV.int .i64 a0_0), (PV.int .i64 a0_1)])])])).bind (fun v1 => (((PV.asTup v1)).bind (fun v2 => (((v2)[0]?).bind (fun v3 => (c_g_i64_i64 v3 (fun v4 v5 => (((PV.asTup v1)).bind (fun v6 => (((v6)[1]?).bind (fun v7 => (c_b v7 (fun v8 => (bif v8 then (some (PV.agg [(PV.int .i64 v4), (PV.int .i64 v5)])) else (((wc W n_val_of [(PV.bool (a0_1 == (0 : Int)))])).bind (fun v9 => (c_g_i64_i64 v9 (fun v10 v11 => (some (PV.agg [(PV.int .i64 v10), (PV.int .i64 v11)]))))))))))))))))))))) := go (by kernel_rfl) (by kernel_rfl) T231 (by kernel_rfl)
noncomputable def jF253 : Jn PV := (Classical.choose (exT fi253 (fin cfg fi253))).1
noncomputable def lF253 : Ln PV := (Classical.choose (exT fi253 (fin cfg fi253))).2
theorem T253 : Tied cfg W fi253 (fin cfg fi253) jF253 lF253 := Classical.choose_spec (exT fi253 (fin cfg fi253))
theorem e_expr_two_1 (a0 : List PV) (c0 : PV) : wc W n_expr_two_1 [(PV.slice 3 a0), (PV.imm 0 c0 0)] =
  (((a0)[0]?).bind (fun v1 => (c_g_i64_i64 v1 (fun v2 v3 => (((a0)[1]?).bind (fun v4 => (c_g_i64_i64 v4 (fun v5 v6 => (((PV.asFn c0)).bind (fun v7 => (((wc W (Prod.fst v7) (((Prod.fst (Prod.snd v7)) ++ [(PV.agg [(PV.int .i64 v2), (PV.int .i64 v3)]), (PV.agg [(PV.int .i64 v5), (PV.int .i64 v6)])]) ++ (Prod.snd (Prod.snd v7))))).bind (fun v8 => (c_g_i64_i64 v8 (fun v9 v10 => (some (PV.agg [(PV.int .i64 v9), (PV.int .i64 v10)])))))))))))))))) := go (by kernel_rfl) (by kernel_rfl) T253 (by kernel_rfl)
noncomputable def jF254 : Jn PV := (Classical.choose (exT fi254 (fin cfg fi254))).1
noncomputable def lF254 : Ln PV := (Classical.choose (exT fi254 (fin cfg fi254))).2
theorem T254 : Tied cfg W fi254 (fin cfg fi254) jF254 lF254 := Classical.choose_spec (exT fi254 (fin cfg fi254))
theorem e_val_reckon (a0_0 : Int) (a0_1 : Int) (a1_0 : Int) (a1_1 : Int) (a2 : PV) : wc W n_val_reckon [(PV.agg [(PV.int .i64 a0_0), (PV.int .i64 a0_1)]), (PV.agg [(PV.int .i64 a1_0), (PV.int .i64 a1_1)]), a2] =
  (((wc W n_val_odd [(PV.slice 3 [(PV.agg [(PV.int .i64 a0_0), (PV.int .i64 a0_1)]), (PV.agg [(PV.int .i64 a1_0), (PV.int .i64 a1_1)])])])).bind (fun v1 => (((PV.asTup v1)).bind (fun v2 => (((v2)[0]?).bind (fun v3 => (c_g_i64_i64 v3 (fun v4 v5 => (((PV.asTup v1)).bind (fun v6 => (((v6)[1]?).bind (fun v7 => (c_b v7 (fun v8 => (bif v8 then (some (PV.agg [(PV.int .i64 v4), (PV.int .i64 v5)])) else (((PV.asFn a2)).bind (fun v9 => (((wc W (Prod.fst v9) (((Prod.fst (Prod.snd v9)) ++ [(PV.int .i64 a0_1), (PV.int .i64 a1_1)]) ++ (Prod.snd (Prod.snd v9))))).bind (fun v10 => (((PV.asTup v10)).bind (fun v11 => (((v11)[0]?).bind (fun v12 => (c_i64 v12 (fun v13 => (((PV.asTup v10)).bind (fun v14 => (((v14)[1]?).bind (fun v15 => (c_b v15 (fun v16 => (bif (!v16) then (((wc W n_val_bad [])).bind (fun v17 => (c_g_i64_i64 v17 (fun v18 v19 => (some (PV.agg [(PV.int .i64 v18), (PV.int .i64 v19)])))))) else (((wc W n_val_Of [(PV.int .i64 v13)])).bind (fun v20 => (c_g_i64_i64 v20 (fun v21 v22 => (some (PV.agg [(PV.int .i64 v21), (PV.int .i64 v22)])))))))))))))))))))))))))))))))))))))) := go (by kernel_rfl) (by kernel_rfl) T254 (by kernel_rfl)
noncomputable def jF255 : Jn PV := (Classical.choose (exT fi255 (fin cfg fi255))).1
noncomputable def lF255 : Ln PV := (Classical.choose (exT fi255 (fin cfg fi255))).2
theorem T255 : Tied cfg W fi255 (fin cfg fi255) jF255 lF255 := Classical.choose_spec (exT fi255 (fin cfg fi255))
theorem e_val_Add_1 (a0 : Int) (a1 : Int) : wc W n_val_Add_1 [(PV.int .i64 a0), (PV.int .i64 a1)] =
  (some (PV.tup [(PV.int .i64 (IntKind.wrap .i64 (a0 + a1 : Int))), (PV.bool ((decide ((IntKind.wrap .i64 (a0 + a1 : Int)) < a0)) == (decide (a1 < (0 : Int)))))])) := go (by kernel_rfl) (by kernel_rfl) T255 (by kernel_rfl)
noncomputable def jF256 : Jn PV := (Classical.choose (exT fi256 (fin cfg fi256))).1
noncomputable def lF256 : Ln PV := (Classical.choose (exT fi256 (fin cfg fi256))).2
theorem T256 : Tied cfg W fi256 (fin cfg fi256) jF256 lF256 := Classical.choose_spec (exT fi256 (fin cfg fi256))
theorem e_val_Sub_1 (a0 : Int) (a1 : Int) : wc W n_val_Sub_1 [(PV.int .i64 a0), (PV.int .i64 a1)] =
  (some (PV.tup [(PV.int .i64 (IntKind.wrap .i64 (a0 - a1 : Int))), (PV.bool ((decide (GT.gt (IntKind.wrap .i64 (a0 - a1 : Int)) a0)) == (decide (a1 < (0 : Int)))))])) := go (by kernel_rfl) (by kernel_rfl) T256 (by kernel_rfl)
noncomputable def jF257 : Jn PV := (Classical.choose (exT fi257 (fin cfg fi257))).1
noncomputable def lF257 : Ln PV := (Classical.choose (exT fi257 (fin cfg fi257))).2
theorem T257 : Tied cfg W fi257 (fin cfg fi257) jF257 lF257 := Classical.choose_spec (exT fi257 (fin cfg fi257))
noncomputable def J_val_Mul_1_1 (i12 : Int) (i13 : Int) (i14 : Int) (i15 : Int) (i16 : Int) : Option PV := jF257 [1, 1, 1, 1] (St.mk [(0, (AV.pv (PV.int .i64 i12))), (1, (AV.pv (PV.int .i64 i13))), (6, (AV.pv (PV.int IntKind.u64 i14))), (7, (AV.pv (PV.int IntKind.u64 i15))), (8, (AV.pv (PV.int IntKind.u64 i16)))] [])
theorem J_val_Mul_1_1_eq (i12 : Int) (i13 : Int) (i14 : Int) (i15 : Int) (i16 : Int) : J_val_Mul_1_1 i12 i13 i14 i15 i16 =
  (bif (i14 == (0 : Int)) then (some (PV.tup [(PV.int .i64 (IntKind.wrap .i64 (i12 * i13 : Int))), (PV.bool (decide (i15 ≤ i16)))])) else (some (PV.tup [(PV.int .i64 (IntKind.wrap .i64 (i12 * i13 : Int))), (PV.bool false)]))) := (T257.join [1, 1, 1, 1] _).trans (by kernel_rfl)
theorem e_val_Mul_1 (a0 : Int) (a1 : Int) : wc W n_val_Mul_1 [(PV.int .i64 a0), (PV.int .i64 a1)] =
  (((wc W n_val_size [(PV.int .i64 a0)])).bind (fun v1 => (c_u64 v1 (fun v2 => (((wc W n_val_size [(PV.int .i64 a1)])).bind (fun v3 => (c_u64 v3 (fun v4 => (((wc W n_bits_Mul64 [(PV.int IntKind.u64 v2), (PV.int IntKind.u64 v4)])).bind (fun v5 => (((PV.asTup v5)).bind (fun v6 => (((v6)[0]?).bind (fun v7 => (c_u64 v7 (fun v8 => (((PV.asTup v5)).bind (fun v9 => (((v9)[1]?).bind (fun v10 => (c_u64 v10 (fun v11 => (bif (!((decide (a0 < (0 : Int))) == (decide (a1 < (0 : Int))))) then (J_val_Mul_1_1 a0 a1 v8 v11 (9223372036854775808 : Int)) else (J_val_Mul_1_1 a0 a1 v8 v11 (9223372036854775807 : Int))))))))))))))))))))))))) := go (by kernel_rfl) (by kernel_rfl) T257 (by kernel_rfl)
noncomputable def jF259 : Jn PV := (Classical.choose (exT fi259 (fin cfg fi259))).1
noncomputable def lF259 : Ln PV := (Classical.choose (exT fi259 (fin cfg fi259))).2
theorem T259 : Tied cfg W fi259 (fin cfg fi259) jF259 lF259 := Classical.choose_spec (exT fi259 (fin cfg fi259))
theorem e_val_size (a0 : Int) : wc W n_val_size [(PV.int .i64 a0)] =
  (bif (decide (a0 < (0 : Int))) then (some (PV.int IntKind.u64 (IntKind.wrap .u64 ((0 : Int) - (IntKind.wrap .u64 a0) : Int)))) else (some (PV.int IntKind.u64 (IntKind.wrap .u64 a0)))) := go (by kernel_rfl) (by kernel_rfl) T259 (by kernel_rfl)
noncomputable def jF260 : Jn PV := (Classical.choose (exT fi260 (fin cfg fi260))).1
noncomputable def lF260 : Ln PV := (Classical.choose (exT fi260 (fin cfg fi260))).2
theorem T260 : Tied cfg W fi260 (fin cfg fi260) jF260 lF260 := Classical.choose_spec (exT fi260 (fin cfg fi260))
noncomputable def J_val_Div_1_1 (i1 : Int) (i2 : Int) : Option PV := jF260 [1, 1] (St.mk [(0, (AV.pv (PV.int .i64 i1))), (1, (AV.pv (PV.int .i64 i2)))] [])
theorem J_val_Div_1_1_eq (i1 : Int) (i2 : Int) : J_val_Div_1_1 i1 i2 =
  (((bif (i2 == (0 : Int)) then none else (some (PV.int .i64 (IntKind.wrap .i64 (Int.tdiv i1 i2)))))).bind (fun v3 => (c_i64 v3 (fun v4 => (some (PV.tup [(PV.int .i64 v4), (PV.bool true)])))))) := (T260.join [1, 1] _).trans (by kernel_rfl)
theorem e_val_Div_1 (a0 : Int) (a1 : Int) : wc W n_val_Div_1 [(PV.int .i64 a0), (PV.int .i64 a1)] =
  (bif (a1 == (0 : Int)) then (some (PV.tup [(PV.int .i64 (0 : Int)), (PV.bool false)])) else (bif (a0 == (-9223372036854775808 : Int)) then (bif (a1 == (-1 : Int)) then (some (PV.tup [(PV.int .i64 (0 : Int)), (PV.bool false)])) else (J_val_Div_1_1 a0 a1)) else (J_val_Div_1_1 a0 a1))) := go (by kernel_rfl) (by kernel_rfl) T260 (by kernel_rfl)
noncomputable def jF261 : Jn PV := (Classical.choose (exT fi261 (fin cfg fi261))).1
noncomputable def lF261 : Ln PV := (Classical.choose (exT fi261 (fin cfg fi261))).2
theorem T261 : Tied cfg W fi261 (fin cfg fi261) jF261 lF261 := Classical.choose_spec (exT fi261 (fin cfg fi261))
theorem e_val_three (a0 : List PV) (a1 : PV) (a2_0 : Int) (a2_1 : Int) (a3_0 : Int) (a3_1 : Int) : wc W n_val_three [(PV.slice 3 a0), a1, (PV.agg [(PV.int .i64 a2_0), (PV.int .i64 a2_1)]), (PV.agg [(PV.int .i64 a3_0), (PV.int .i64 a3_1)])] =
  (((wc W n_val_some_api_Val [(PV.slice 3 a0), a1])).bind (fun v1 => (c_b v1 (fun v2 => (bif v2 then (some (PV.agg [(PV.int .i64 a2_0), (PV.int .i64 a2_1)])) else (((wc W n_val_odd [(PV.slice 3 a0)])).bind (fun v3 => (((PV.asTup v3)).bind (fun v4 => (((v4)[0]?).bind (fun v5 => (c_g_i64_i64 v5 (fun v6 v7 => (((PV.asTup v3)).bind (fun v8 => (((v8)[1]?).bind (fun v9 => (c_b v9 (fun v10 => (bif v10 then (some (PV.agg [(PV.int .i64 v6), (PV.int .i64 v7)])) else (some (PV.agg [(PV.int .i64 a3_0), (PV.int .i64 a3_1)])))))))))))))))))))))) := go (by kernel_rfl) (by kernel_rfl) T261 (by kernel_rfl)
noncomputable def jF262 : Jn PV := (Classical.choose (exT fi262 (fin cfg fi262))).1
noncomputable def lF262 : Ln PV := (Classical.choose (exT fi262 (fin cfg fi262))).2
theorem T262 : Tied cfg W fi262 (fin cfg fi262) jF262 lF262 := Classical.choose_spec (exT fi262 (fin cfg fi262))
theorem e_val_isFalse (a0_0 : Int) (a0_1 : Int) : wc W n_val_isFalse [(PV.agg [(PV.int .i64 a0_0), (PV.int .i64 a0_1)])] =
  (((wc W n_val_Of [(PV.int .i64 (0 : Int))])).bind (fun v1 => (c_g_i64_i64 v1 (fun v2 v3 => (((((bif (a0_0 == v2) then (bif (a0_1 == v3) then (some true) else (some false)) else (some false))).bind (fun v4 => (some (PV.bool v4))))).bind (fun v5 => (c_b v5 (fun v6 => (some (PV.bool v6)))))))))) := go (by kernel_rfl) (by kernel_rfl) T262 (by kernel_rfl)
end Go.Cf

namespace Go.Cf
open Go Go.Ab
set_option linter.unusedVariables false
set_option linter.unusedSimpArgs false
structure Val where
  K : Int
  N : Int
  deriving DecidableEq
def Val.pv (v : Val) : PV := .agg [.int .i64 v.K, .int .i64 v.N]
@[simp] theorem Val.fold (v : Val) : PV.agg [.int .i64 v.K, .int .i64 v.N] = v.pv := rfl
@[simp] theorem Val.c_mk (v : Val) {R : Type} (f : Int → Int → Option R) : c_g_i64_i64 v.pv f = f v.K v.N := rfl
structure Def where
  Cols : Int
  Rows : Int
  deriving DecidableEq
def Def.pv (d : Def) : PV := .agg [.int .i64 d.Cols, .int .i64 d.Rows]
@[simp] theorem Def.fold (v : Def) : PV.agg [.int .i64 v.Cols, .int .i64 v.Rows] = v.pv := rfl
@[simp] theorem Def.c_mk (v : Def) {R : Type} (f : Int → Int → Option R) : c_g_i64_i64 v.pv f = f v.Cols v.Rows := rfl
@[simp] theorem Def.load0 (v : Def) : PV.load 3 v.pv 0 0 = some (.int .i64 v.Cols) := rfl
@[simp] theorem Def.load1 (v : Def) : PV.load 3 v.pv 1 0 = some (.int .i64 v.Rows) := rfl
def rowp (r : List Val) : PV := .slice 3 (r.map Val.pv)
def tabp (t : List (List Val)) : PV := .slice 0 (t.map rowp)
@[simp] theorem c_rowp (r : List Val) {R : Type} (f : List PV → Option R) : c_s3 (rowp r) f = f (r.map Val.pv) := rfl
@[simp] theorem c_tabp (t : List (List Val)) {R : Type} (f : List PV → Option R) : c_s0 (tabp t) f = f (t.map rowp) := rfl
@[simp] theorem rowp_fold (r : List Val) : PV.slice 3 (r.map Val.pv) = rowp r := rfl
@[simp] theorem tabp_fold (t : List (List Val)) : PV.slice 0 (t.map rowp) = tabp t := rfl
def intp (n : Int) : PV := .int .i64 n
@[simp] theorem c_intp (n : Int) {R : Type} (f : Int → Option R) : c_i64 (intp n) f = f n := rfl
def intsp (l : List Int) : PV := .slice 0 (l.map intp)
@[simp] theorem intsp_fold (l : List Int) : PV.slice 0 (l.map intp) = intsp l := rfl
@[simp] theorem c_intsp (l : List Int) {R : Type} (f : List PV → Option R) : c_s0 (intsp l) f = f (l.map intp) := rfl
def idxI {α : Type} (l : List α) (f : α → Bool) : Int := match l.findIdx? f with | some i => (i : Int) | none => -1
theorem idxI_any {α : Type} (l : List α) (f : α → Bool) : decide (idxI l f ≥ 0) = l.any f := by
  unfold idxI
  cases h : l.findIdx? f with
  | some i =>
    have := List.findIdx?_eq_some_iff_getElem.1 h
    obtain ⟨hi, h1, _⟩ := this
    have : l.any f = true := List.any_eq_true.2 ⟨_, List.getElem_mem hi, h1⟩
    rw [this]; simp
  | none =>
    have := List.findIdx?_eq_none_iff.1 h
    have : l.any f = false := by
      rw [Bool.eq_false_iff]
      intro e
      obtain ⟨x, hx, e⟩ := List.any_eq_true.1 e
      rw [this x hx] at e; cases e
    rw [this]; rfl
theorem loop_idx {R α : Type} (L : Int → Option R) (l : List α) (f : α → Bool) (g : Int → Option R) (hs : ∀ (i : Nat) (h : i < l.length), L (i : Int) = bif f l[i] then g (i : Int) else L ((i : Int) + 1)) (he : L (l.length : Int) = g (-1)) :
    L 0 = g (idxI l f) := by
  have : ∀ k i : Nat, i + k = l.length → L (i : Int) = g (match (l.drop i).findIdx? f with | some j => ((i + j : Nat) : Int) | none => -1) := by
    intro k
    induction k with
    | zero =>
      intro i h; simp at h; subst h
      rw [he, List.drop_of_length_le (Nat.le_refl _)]; rfl
    | succ k ih =>
      intro i h
      have hi : i < l.length := by omega
      rw [hs i hi, List.drop_eq_getElem_cons hi, List.findIdx?_cons]
      cases f l[i] with
      | true => simp
      | false =>
        simp only [cond_false, Bool.false_eq_true, if_false]
        rw [show ((i : Int) + 1) = ((i + 1 : Nat) : Int) by omega, ih (i + 1) (by omega)]
        cases (List.drop (i + 1) l).findIdx? f with
        | none => rfl
        | some j =>
          simp only [Option.map_some]
          congr 1; omega
  have h0 := this l.length 0 (by omega)
  simp only [Nat.zero_add, List.drop_zero] at h0
  exact h0
theorem w_idxVal (l : List Val) (g : Nat) (fs cs : List PV) (f : Val → Bool) (hl : l.length ≤ 9223372036854775807) (hf : ∀ x ∈ l, wc W g (fs ++ [x.pv] ++ cs) = some (.bool (f x))) :
    wc W n_slices_IndexFunc_api_Val_api_Val_b1f6 [rowp l, .fn g fs cs] = some (.int .i64 (idxI l f)) := by
  unfold rowp
  rw [e_slices_IndexFunc_api_Val_api_Val_b1f6, List.length_map]
  refine loop_idx (fun i => L_slices_IndexFunc_api_Val_api_Val_b1f6_1 (l.map Val.pv) (.fn g fs cs) l.length i) l f (fun n => some (.int .i64 n)) (fun i hi => ?_) ?_
  · rw [L_slices_IndexFunc_api_Val_api_Val_b1f6_1_eq]
    simp only [lt_len hi, nat_le, cond_true, Int.toNat_natCast, List.getElem?_map, List.getElem?_eq_getElem hi, Option.map_some, Option.bind_some, Val.c_mk, asFn_mk, Val.fold]
    rw [hf _ (List.getElem_mem hi), wrap64 (by omega) (by omega)]
    simp only [Option.bind_some, c_b_mk]
  · rw [L_slices_IndexFunc_api_Val_api_Val_b1f6_1_eq]; simp
theorem w_anyVal (l : List Val) (g : Nat) (fs cs : List PV) (f : Val → Bool) (hl : l.length ≤ 9223372036854775807) (hf : ∀ x ∈ l, wc W g (fs ++ [x.pv] ++ cs) = some (.bool (f x))) :
    wc W n_slices_ContainsFunc_api_Val_api_Val_c5fc [rowp l, .fn g fs cs] = some (.bool (l.any f)) := by
  have h := e_slices_ContainsFunc_api_Val_api_Val_c5fc (l.map Val.pv) (.fn g fs cs)
  rw [rowp_fold] at h
  rw [h, w_idxVal l g fs cs f hl hf]
  simp [← idxI_any]
def mayV (v : Val) : Bool := decide (v.K = 0) || ((decide (v.K = 1) || decide (v.K = 2)) && decide (v.N = 0))
theorem w_val_May (v : Val) : wc W n_val_May [v.pv] = some (.bool (mayV v)) := by
  have h := e_val_May v.K v.N
  rw [Val.fold] at h
  rw [h]
  unfold mayV
  by_cases h0 : v.K = 0
  · rw [h0]; simp
  · by_cases h1 : v.K = 1
    · rw [h1]; simp [BEq.beq]
    · by_cases h2 : v.K = 2
      · rw [h2]; simp [BEq.beq]
      · by_cases a : v.K ≥ 0
        · rw [decide_eq_true a, decide_eq_false (show ¬ v.K < 3 by omega)]; simp [h0, h1, h2]
        · rw [decide_eq_false a]; simp [h0, h1, h2]
end Go.Cf

namespace Go.Cf
open Go Go.Ab
set_option linter.unusedVariables false
set_option linter.unusedSimpArgs false
def badV : Val := ⟨2, 0⟩
def nullV : Val := ⟨1, 0⟩
def fineV (v : Val) : Val := bif mayV v then v else badV
def oddV (l : List Val) : Option Val := bif l.any (fun v => (fineV v).K == 2) then some badV else bif l.any (fun v => (fineV v).K == 1) then some nullV else none
def oneV (b : Bool) : Val := ⟨0, bif b then 1 else 0⟩
def reckV (a b : Val) (f : Int → Int → Option Int) : Val := match oddV [a, b] with | some v => v | none => match f a.N b.N with | some n => ⟨0, n⟩ | none => badV
def inI (n : Int) : Bool := decide (-9223372036854775808 ≤ n) && decide (n ≤ 9223372036854775807)
def addO (x y : Int) : Option Int := bif inI (x + y) then some (x + y) else none
def subO (x y : Int) : Option Int := bif inI (x - y) then some (x - y) else none
def mulO (x y : Int) : Option Int := bif inI (x * y) then some (x * y) else none
def divO (x y : Int) : Option Int := bif y == 0 || (x == -9223372036854775808 && y == -1) then none else some (Int.tdiv x y)
def eqV (a b : Val) : Val := match oddV [a, b] with | some v => v | none => oneV (decide (a = b))
def ltV (a b : Val) : Val := match oddV [a, b] with | some v => v | none => oneV (decide (a.N < b.N))
def trueV (v : Val) : Bool := v.K == 0 && v.N != 0
def falseV (v : Val) : Bool := v.K == 0 && v.N == 0
def andV (l : List Val) : Val := bif l.any falseV then ⟨0, 0⟩ else match oddV l with | some v => v | none => ⟨0, 1⟩
def orV (l : List Val) : Val := bif l.any trueV then ⟨0, 1⟩ else match oddV l with | some v => v | none => ⟨0, 0⟩
def notV (v : Val) : Val := match oddV [v] with | some w => w | none => oneV (v.N == 0)
theorem w_bad : wc W n_val_bad [] = some badV.pv := e_val_bad
theorem w_null : wc W n_val_null [] = some nullV.pv := e_val_null
theorem w_Of (n : Int) : wc W n_val_Of [.int .i64 n] = some (Val.mk 0 n).pv := e_val_Of n
theorem w_of (b : Bool) : wc W n_val_of [.bool b] = some (oneV b).pv := by
  rw [e_val_of, w_Of, w_Of]
  cases b <;> rfl
theorem w_fine (v : Val) : wc W n_val_fine [v.pv] = some (fineV v).pv := by
  have h := e_val_fine v.K v.N
  rw [Val.fold] at h
  rw [h, w_val_May, w_bad]
  unfold fineV
  cases mayV v <;> rfl
theorem w_kind1 (v : Val) (k : Int) : wc W n_val_kind_1 [v.pv, .imm 0 (.int .i64 k) 0] = some (.bool ((fineV v).K == k)) := by
  have h := e_val_kind_1 v.K v.N k
  rw [Val.fold] at h
  rw [h, w_fine]; rfl
theorem w_kind (k : Int) : wc W n_val_kind [.int .i64 k] = some (.fn n_val_kind_1 [] [.imm 0 (.int .i64 k) 0]) := e_val_kind k
theorem w_someV (l : List Val) (g : Nat) (fs cs : List PV) (f : Val → Bool) (hl : l.length ≤ 9223372036854775807) (hf : ∀ x ∈ l, wc W g (fs ++ [x.pv] ++ cs) = some (.bool (f x))) :
    wc W n_val_some_api_Val [rowp l, .fn g fs cs] = some (.bool (l.any f)) := by
  have h := e_val_some_api_Val (l.map Val.pv) (.fn g fs cs)
  rw [rowp_fold] at h
  rw [h, w_anyVal l g fs cs f hl hf]; rfl
def oddP (l : List Val) : PV := match oddV l with | some v => .tup [v.pv, .bool true] | none => .tup [(Val.mk 0 0).pv, .bool false]
theorem w_odd (l : List Val) (hl : l.length ≤ 9223372036854775807) : wc W n_val_odd [rowp l] = some (oddP l) := by
  have h := e_val_odd (l.map Val.pv)
  rw [rowp_fold] at h
  rw [h]
  simp only [w_kind, Option.bind_some, w_someV l n_val_kind_1 [] [.imm 0 (.int .i64 2) 0] (fun v => (fineV v).K == 2) hl (fun x _ => w_kind1 x 2), w_someV l n_val_kind_1 [] [.imm 0 (.int .i64 1) 0] (fun v => (fineV v).K == 1) hl (fun x _ => w_kind1 x 1), c_b_mk, w_bad, w_null]
  unfold oddP oddV
  cases l.any (fun v => (fineV v).K == 2) <;> cases l.any (fun v => (fineV v).K == 1) <;> rfl
theorem row2 (a b : Val) : PV.slice 3 [a.pv, b.pv] = rowp [a, b] := rfl
theorem row1 (a : Val) : PV.slice 3 [a.pv] = rowp [a] := rfl
theorem w_reckon (a b : Val) (g : Nat) (f : Int → Int → Option Int) (hg : ∃ n, wc W g [.int .i64 a.N, .int .i64 b.N] = some (.tup [.int .i64 ((f a.N b.N).getD n), .bool (f a.N b.N).isSome])) :
    wc W n_val_reckon [a.pv, b.pv, .fn g [] []] = some (reckV a b f).pv := by
  have h := e_val_reckon a.K a.N b.K b.N (.fn g [] [])
  simp only [Val.fold, row2] at h
  obtain ⟨n, hg⟩ := hg
  rw [h, w_odd [a, b] (by simp)]
  unfold reckV oddP
  cases oddV [a, b] with
  | some v => simp
  | none =>
    simp only [Option.bind_some, asTup_mk, List.getElem?_cons_zero, List.getElem?_cons_succ, Val.c_mk, c_b_mk, cond_false, asFn_mk, List.nil_append, List.append_nil, hg, c_i64_mk, w_bad, w_Of, Val.fold]
    cases f a.N b.N <;> rfl
theorem wrapI64 (n : Int) : IntKind.wrap .i64 n = (n + 9223372036854775808) % 18446744073709551616 - 9223372036854775808 := by
  simp only [IntKind.wrap, IntKind.bits, IntKind.signed]
  simp
  omega
theorem w_Add (a b : Val) (ha : I64 a.N) (hb : I64 b.N) : wc W n_val_Add [a.pv, b.pv] = some (reckV a b addO).pv := by
  have h := e_val_Add a.K a.N b.K b.N
  simp only [Val.fold] at h
  rw [h, w_reckon a b n_val_Add_1 addO ⟨IntKind.wrap .i64 (a.N + b.N), ?_⟩]
  · simp
  · rw [e_val_Add_1]
    obtain ⟨a1, a2⟩ := ha
    obtain ⟨b1, b2⟩ := hb
    unfold addO inI
    by_cases hi : -9223372036854775808 ≤ a.N + b.N ∧ a.N + b.N ≤ 9223372036854775807
    · rw [decide_eq_true hi.1, decide_eq_true hi.2, wrap64 hi.1 hi.2]
      have : (decide (a.N + b.N < a.N) == decide (b.N < 0)) = true := by
        rw [beq_iff_eq, decide_eq_decide]; omega
      rw [this]; rfl
    · have hb' : (decide (-9223372036854775808 ≤ a.N + b.N) && decide (a.N + b.N ≤ 9223372036854775807)) = false := by rw [← Bool.decide_and]; exact decide_eq_false hi
      rw [hb']
      have : (decide (IntKind.wrap .i64 (a.N + b.N) < a.N) == decide (b.N < 0)) = false := by
        rw [beq_eq_false_iff_ne, ne_eq, decide_eq_decide, wrapI64]; omega
      rw [this]; rfl
theorem w_Sub (a b : Val) (ha : I64 a.N) (hb : I64 b.N) : wc W n_val_Sub [a.pv, b.pv] = some (reckV a b subO).pv := by
  have h := e_val_Sub a.K a.N b.K b.N
  simp only [Val.fold] at h
  rw [h, w_reckon a b n_val_Sub_1 subO ⟨IntKind.wrap .i64 (a.N - b.N), ?_⟩]
  · simp
  · rw [e_val_Sub_1]
    obtain ⟨a1, a2⟩ := ha
    obtain ⟨b1, b2⟩ := hb
    unfold subO inI
    by_cases hi : -9223372036854775808 ≤ a.N - b.N ∧ a.N - b.N ≤ 9223372036854775807
    · rw [decide_eq_true hi.1, decide_eq_true hi.2, wrap64 hi.1 hi.2]
      have : (decide (a.N - b.N > a.N) == decide (b.N < 0)) = true := by
        rw [beq_iff_eq, decide_eq_decide]; omega
      rw [this]; rfl
    · have hb' : (decide (-9223372036854775808 ≤ a.N - b.N) && decide (a.N - b.N ≤ 9223372036854775807)) = false := by rw [← Bool.decide_and]; exact decide_eq_false hi
      rw [hb']
      have : (decide (IntKind.wrap .i64 (a.N - b.N) > a.N) == decide (b.N < 0)) = false := by
        rw [beq_eq_false_iff_ne, ne_eq, decide_eq_decide, wrapI64]; omega
      rw [this]; rfl
theorem w_Div (a b : Val) (ha : I64 a.N) (hb : I64 b.N) : wc W n_val_Div [a.pv, b.pv] = some (reckV a b divO).pv := by
  have h := e_val_Div a.K a.N b.K b.N
  simp only [Val.fold] at h
  rw [h, w_reckon a b n_val_Div_1 divO ⟨0, ?_⟩]
  · simp
  · rw [e_val_Div_1]
    unfold divO
    cases h0 : (b.N == 0) with
    | true => rfl
    | false =>
      have hJ : (a.N == -9223372036854775808 && b.N == -1) = false → J_val_Div_1_1 a.N b.N = some (.tup [.int .i64 (Int.tdiv a.N b.N), .bool true]) := fun hn => by
        rw [J_val_Div_1_1_eq, h0]
        obtain ⟨a1, a2⟩ := ha
        have hb0 : b.N ≠ 0 := by simpa using h0
        have hr : -9223372036854775808 ≤ Int.tdiv a.N b.N ∧ Int.tdiv a.N b.N ≤ 9223372036854775807 := by
          have h1 : (Int.tdiv a.N b.N).natAbs ≤ a.N.natAbs := by
            rw [Int.natAbs_tdiv]
            exact Nat.div_le_self _ _
          by_cases hm : Int.tdiv a.N b.N = 9223372036854775808
          · exfalso
            have hA : a.N = -9223372036854775808 := by omega
            rw [hA] at hm hn
            have hb1 : b.N ≠ -1 := by intro e; rw [e] at hn; cases hn
            have h2 : (Int.tdiv (-9223372036854775808) b.N).natAbs = 9223372036854775808 / b.N.natAbs := by rw [Int.natAbs_tdiv]; rfl
            rw [hm] at h2
            have h3 : b.N.natAbs = 1 := by
              rcases Nat.lt_or_ge b.N.natAbs 2 with h | h
              · omega
              · have : 9223372036854775808 / b.N.natAbs ≤ 9223372036854775808 / 2 := Nat.div_le_div_left h (by omega)
                have h4 : (9223372036854775808 : Int).natAbs = 9223372036854775808 := rfl
                omega
            have hb2 : b.N = 1 := by omega
            rw [hb2] at hm
            simp at hm
          · omega
        rw [wrap64 hr.1 hr.2]; rfl
      simp only [cond_false, Bool.false_or]
      cases h1 : (a.N == -9223372036854775808) with
      | false =>
        rw [h1] at hJ
        simp only [cond_false, Bool.false_and, hJ (by rfl)]; rfl
      | true =>
        rw [h1] at hJ
        cases h2 : (b.N == -1) with
        | true => rfl
        | false =>
          rw [h2] at hJ
          simp only [cond_true, cond_false, Bool.and_false, hJ (by rfl)]; rfl
theorem w_Eq (a b : Val) : wc W n_val_Eq [a.pv, b.pv] = some (eqV a b).pv := by
  have h := e_val_Eq a.K a.N b.K b.N
  simp only [Val.fold, row2] at h
  rw [h, w_odd [a, b] (by simp)]
  unfold eqV oddP
  cases oddV [a, b] with
  | some v => simp
  | none =>
    simp only [Option.bind_some, asTup_mk, List.getElem?_cons_zero, List.getElem?_cons_succ, Val.c_mk, c_b_mk, cond_false]
    have key : ((bif (a.K == b.K) then (bif (a.N == b.N) then (some true) else (some false)) else (some false)) : Option Bool) = some (decide (a = b)) := by
      cases a; cases b
      simp only [Val.mk.injEq]
      rw [Bool.decide_and]
      rename_i k n k' n'
      show _ = some ((k == k') && (n == n'))
      cases k == k' <;> cases n == n' <;> rfl
    rw [key]
    simp only [Option.bind_some, c_b_mk, w_of, Val.c_mk, Val.fold]
theorem w_Lt (a b : Val) : wc W n_val_Lt [a.pv, b.pv] = some (ltV a b).pv := by
  have h := e_val_Lt a.K a.N b.K b.N
  simp only [Val.fold, row2] at h
  rw [h, w_odd [a, b] (by simp)]
  unfold ltV oddP
  cases oddV [a, b] with
  | some v => simp
  | none => simp only [Option.bind_some, asTup_mk, List.getElem?_cons_zero, List.getElem?_cons_succ, Val.c_mk, c_b_mk, cond_false, w_of, Val.fold]
theorem w_Not (a : Val) : wc W n_val_Not [a.pv] = some (notV a).pv := by
  have h := e_val_Not a.K a.N
  simp only [Val.fold, row1] at h
  rw [h, w_odd [a] (by simp)]
  unfold notV oddP
  cases oddV [a] with
  | some v => simp
  | none => simp only [Option.bind_some, asTup_mk, List.getElem?_cons_zero, List.getElem?_cons_succ, Val.c_mk, c_b_mk, cond_false, w_of, Val.fold]
theorem w_True (v : Val) : wc W n_val_True [v.pv] = some (.bool (trueV v)) := by
  have h := e_val_True v.K v.N
  rw [Val.fold] at h
  rw [h]
  unfold trueV
  cases v.K == 0 <;> rfl
theorem w_isFalse (v : Val) : wc W n_val_isFalse [v.pv] = some (.bool (falseV v)) := by
  have h := e_val_isFalse v.K v.N
  rw [Val.fold] at h
  rw [h, w_Of]
  unfold falseV
  simp only [Option.bind_some, Val.c_mk]
  cases v.K == 0 <;> cases v.N == 0 <;> rfl
theorem w_three (l : List Val) (g : Nat) (f : Val → Bool) (x y : Val) (hl : l.length ≤ 9223372036854775807) (hf : ∀ v ∈ l, wc W g [v.pv] = some (.bool (f v))) :
    wc W n_val_three [rowp l, .fn g [] [], x.pv, y.pv] = some (bif l.any f then x else match oddV l with | some v => v | none => y).pv := by
  have h := e_val_three (l.map Val.pv) (.fn g [] []) x.K x.N y.K y.N
  simp only [Val.fold, rowp_fold] at h
  rw [h, w_someV l g [] [] f hl hf, w_odd l hl]
  unfold oddP
  cases l.any f with
  | true => rfl
  | false => cases oddV l <;> simp
theorem w_And (l : List Val) (hl : l.length ≤ 9223372036854775807) : wc W n_val_And [rowp l] = some (andV l).pv := by
  have h := e_val_And (l.map Val.pv)
  rw [rowp_fold] at h
  rw [h, w_Of, w_Of]
  simp only [Option.bind_some, Val.c_mk, Val.fold, show PV.agg [PV.int .i64 0, PV.int .i64 0] = (Val.mk 0 0).pv from rfl, show PV.agg [PV.int .i64 0, PV.int .i64 1] = (Val.mk 0 1).pv from rfl, w_three l n_val_isFalse falseV ⟨0, 0⟩ ⟨0, 1⟩ hl (fun v _ => w_isFalse v)]
  rfl
theorem w_Or (l : List Val) (hl : l.length ≤ 9223372036854775807) : wc W n_val_Or [rowp l] = some (orV l).pv := by
  have h := e_val_Or (l.map Val.pv)
  rw [rowp_fold] at h
  rw [h, w_Of, w_Of]
  simp only [Option.bind_some, Val.c_mk, Val.fold, show PV.agg [PV.int .i64 0, PV.int .i64 0] = (Val.mk 0 0).pv from rfl, show PV.agg [PV.int .i64 0, PV.int .i64 1] = (Val.mk 0 1).pv from rfl, w_three l n_val_True trueV ⟨0, 1⟩ ⟨0, 0⟩ hl (fun v _ => w_True v)]
  rfl
end Go.Cf

namespace Go.Cf
open Go Go.Ab
set_option linter.unusedVariables false
set_option linter.unusedSimpArgs false
theorem w_size (n : Int) (h : I64 n) : wc W n_val_size [.int .i64 n] = some (.int .u64 (n.natAbs : Int)) := by
  obtain ⟨h1, h2⟩ := h
  have hw : ∀ m : Int, IntKind.wrap .u64 m = m % 18446744073709551616 := fun m => by simp [IntKind.wrap, IntKind.bits, IntKind.signed]
  rw [e_val_size, hw, hw]
  by_cases hn : n < 0
  · rw [decide_eq_true hn]
    simp only [cond_true]
    congr 2
    omega
  · rw [decide_eq_false hn]
    simp only [cond_false]
    congr 2
    omega
theorem natAbs_mul_le {a b : Int} (ha : I64 a) (hb : I64 b) : a.natAbs * b.natAbs ≤ 9223372036854775808 * 9223372036854775808 := Nat.mul_le_mul (by obtain ⟨_, _⟩ := ha; omega) (by obtain ⟨_, _⟩ := hb; omega)
theorem mul_split {m : Nat} (hm : m ≤ 9223372036854775808 * 9223372036854775808) (k : Nat) (hk : k < 18446744073709551616) :
    (((m / 18446744073709551616 : Nat) : Int) == 0 && decide (((m % 18446744073709551616 : Nat) : Int) ≤ (k : Int))) = decide (m ≤ k) := by
  by_cases h : m ≤ k
  · rw [decide_eq_true h]
    have h1 : m / 18446744073709551616 = 0 := Nat.div_eq_of_lt (by omega)
    have h2 : m % 18446744073709551616 = m := Nat.mod_eq_of_lt (by omega)
    rw [h1, h2]
    simpa using h
  · rw [decide_eq_false h]
    by_cases h1 : m < 18446744073709551616
    · have h2 : m % 18446744073709551616 = m := Nat.mod_eq_of_lt h1
      rw [h2]
      have : decide ((m : Int) ≤ (k : Int)) = false := decide_eq_false (by omega)
      rw [this, Bool.and_false]
    · have h3 : 0 < m / 18446744073709551616 := Nat.div_pos (by omega) (by omega)
      have : ((((m / 18446744073709551616 : Nat) : Int)) == 0) = false := by simp only [beq_eq_false_iff_ne, ne_eq]; omega
      rw [this, Bool.false_and]
theorem w_Mul1 (a b : Int) (ha : I64 a) (hb : I64 b) : wc W n_val_Mul_1 [.int .i64 a, .int .i64 b] = some (.tup [.int .i64 (IntKind.wrap .i64 (a * b)), .bool (inI (a * b))]) := by
  rw [e_val_Mul_1, w_size a ha, w_size b hb]
  have hm := natAbs_mul_le ha hb
  obtain ⟨a1, a2⟩ := ha
  obtain ⟨b1, b2⟩ := hb
  simp only [Option.bind_some, c_u64_mk]
  rw [x_bits_Mul64 _ _ (by omega) (by omega) (by omega) (by omega)]
  simp only [Option.bind_some, asTup_mk, List.getElem?_cons_zero, List.getElem?_cons_succ, c_u64_mk, Int.toNat_natCast]
  have hJ : ∀ k : Nat, k < 18446744073709551616 → J_val_Mul_1_1 a b ((a.natAbs * b.natAbs / 18446744073709551616 : Nat) : Int) ((a.natAbs * b.natAbs % 18446744073709551616 : Nat) : Int) (k : Int) =
      some (.tup [.int .i64 (IntKind.wrap .i64 (a * b)), .bool (decide (a.natAbs * b.natAbs ≤ k))]) := fun k hk => by
    rw [J_val_Mul_1_1_eq, ← mul_split hm k hk]
    cases (((a.natAbs * b.natAbs / 18446744073709551616 : Nat) : Int) == 0) <;> rfl
  have hab : (a * b).natAbs = a.natAbs * b.natAbs := Int.natAbs_mul a b
  by_cases hs : decide (a < 0) = decide (b < 0)
  · rw [beq_t hs]
    simp only [Bool.not_true, cond_false]
    rw [show (9223372036854775807 : Int) = ((9223372036854775807 : Nat) : Int) from rfl, hJ _ (by omega)]
    have h0 : 0 ≤ a * b := by
      rw [decide_eq_decide] at hs
      by_cases h : a < 0
      · exact Int.le_of_lt (Int.mul_pos_of_neg_of_neg h (hs.1 h))
      · exact Int.mul_nonneg (by omega) (by have : ¬ b < 0 := fun e => h (hs.2 e); omega)
    unfold inI
    rw [← hab, decide_eq_true (show -9223372036854775808 ≤ a * b by omega), Bool.true_and]
    congr 4
    congr 1
    rw [decide_eq_decide]; omega
  · rw [beq_f hs]
    simp only [Bool.not_false, cond_true]
    rw [show (9223372036854775808 : Int) = ((9223372036854775808 : Nat) : Int) from rfl, hJ _ (by omega)]
    have h0 : a * b ≤ 0 := by
      rw [decide_eq_decide] at hs
      by_cases h : a < 0
      · exact Int.mul_nonpos_of_nonpos_of_nonneg (by omega) (by omega)
      · exact Int.mul_nonpos_of_nonneg_of_nonpos (by omega) (by omega)
    unfold inI
    rw [← hab, decide_eq_true (show a * b ≤ 9223372036854775807 by omega), Bool.and_true]
    congr 4
    congr 1
    rw [decide_eq_decide]; omega
theorem w_Mul (a b : Val) (ha : I64 a.N) (hb : I64 b.N) : wc W n_val_Mul [a.pv, b.pv] = some (reckV a b mulO).pv := by
  have h := e_val_Mul a.K a.N b.K b.N
  simp only [Val.fold] at h
  rw [h, w_reckon a b n_val_Mul_1 mulO ⟨IntKind.wrap .i64 (a.N * b.N), ?_⟩]
  · simp
  · rw [w_Mul1 _ _ ha hb]
    unfold mulO
    cases hi : inI (a.N * b.N) with
    | false => rfl
    | true =>
      unfold inI at hi
      simp only [Bool.and_eq_true, decide_eq_true_eq] at hi
      rw [wrap64 hi.1 hi.2]; rfl
end Go.Cf

namespace Go.Cf
open Go Go.Ab
set_option linter.unusedVariables false
set_option linter.unusedSimpArgs false
inductive Ex where
  | mk (op col : Int) (v : Val) (l : List Ex)
mutual
def Ex.pv : Ex → PV
  | .mk o c v l => .agg [.int .i64 o, .int .i64 c, .int .i64 v.K, .int .i64 v.N, .slice 6 (Ex.pvL l)]
def Ex.pvL : List Ex → List PV
  | [] => []
  | e :: r => e.pv :: Ex.pvL r
end
theorem Ex.pvL_map : ∀ l : List Ex, Ex.pvL l = l.map Ex.pv
  | [] => rfl
  | e :: r => by rw [Ex.pvL, Ex.pvL_map r]; rfl
theorem Ex.pv_mk (o c : Int) (v : Val) (l : List Ex) : (Ex.mk o c v l).pv = .agg [.int .i64 o, .int .i64 c, .int .i64 v.K, .int .i64 v.N, .slice 6 (l.map Ex.pv)] := by rw [Ex.pv, Ex.pvL_map]
def Ex.op : Ex → Int | .mk o _ _ _ => o
def Ex.col : Ex → Int | .mk _ c _ _ => c
def Ex.v : Ex → Val | .mk _ _ v _ => v
def Ex.l : Ex → List Ex | .mk _ _ _ l => l
theorem Ex.pv_eq (e : Ex) : e.pv = .agg [.int .i64 e.op, .int .i64 e.col, .int .i64 e.v.K, .int .i64 e.v.N, .slice 6 (e.l.map Ex.pv)] := by cases e; exact Ex.pv_mk ..
@[simp] theorem Ex.c_mk (e : Ex) {R : Type} (f : Int → Int → Int → Int → List PV → Option R) : c_g_i64_i64_i64_i64_s6 e.pv f = f e.op e.col e.v.K e.v.N (e.l.map Ex.pv) := by rw [Ex.pv_eq]; rfl
theorem Ex.fold (e : Ex) : PV.agg [.int .i64 e.op, .int .i64 e.col, .int .i64 e.v.K, .int .i64 e.v.N, .slice 6 (e.l.map Ex.pv)] = e.pv := e.pv_eq.symm
mutual
def Ex.sz : Ex → Nat
  | .mk _ _ _ l => Ex.szL l + 1
def Ex.szL : List Ex → Nat
  | [] => 0
  | e :: r => e.sz + Ex.szL r
end
theorem Ex.sz_pos (e : Ex) : 0 < e.sz := by cases e; simp [Ex.sz]
theorem Ex.szL_ge : ∀ l : List Ex, l.length ≤ Ex.szL l
  | [] => Nat.le_refl _
  | e :: r => by have := Ex.szL_ge r; have := e.sz_pos; simp only [Ex.szL, List.length_cons]; omega
theorem Ex.sz_mem : ∀ {l : List Ex} {e : Ex}, e ∈ l → e.sz ≤ Ex.szL l
  | x :: r, e, h => by
    rcases List.mem_cons.1 h with rfl | h
    · simp only [Ex.szL]; omega
    · have := Ex.sz_mem h; simp only [Ex.szL]; omega
theorem Ex.sz_drop (l : List Ex) (i : Nat) (hi : i < l.length) : Ex.szL (l.drop i) = l[i].sz + Ex.szL (l.drop (i + 1)) := by rw [List.drop_eq_getElem_cons hi]; rfl
def lowO (o : Int) : Int := bif decide (2 ≤ o) && decide (o ≤ 7) then 2 else bif o == 10 then 1 else 0
def highO (o : Int) : Int := bif decide (2 ≤ o) && decide (o ≤ 7) then 2 else bif o == 10 then 1 else bif o == 8 || o == 9 then 4 else 0
def fnO (o : Int) : PV :=
  bif o == 2 then .fn n_expr_two_1 [] [.imm 0 (.fn n_val_Add [] []) 0] else bif o == 3 then .fn n_expr_two_1 [] [.imm 0 (.fn n_val_Sub [] []) 0] else
  bif o == 4 then .fn n_expr_two_1 [] [.imm 0 (.fn n_val_Mul [] []) 0] else bif o == 5 then .fn n_expr_two_1 [] [.imm 0 (.fn n_val_Div [] []) 0] else
  bif o == 6 then .fn n_expr_two_1 [] [.imm 0 (.fn n_val_Eq [] []) 0] else bif o == 7 then .fn n_expr_two_1 [] [.imm 0 (.fn n_val_Lt [] []) 0] else
  bif o == 8 then .fn n_expr_ways_1 [] [] else bif o == 9 then .fn n_expr_ways_2 [] [] else bif o == 10 then .fn n_expr_ways_3 [] [] else .nilfn
theorem w_ways (o : Int) : wc W n_expr_ways [.int .i64 o] = some (.agg [.int .i64 (lowO o), .int .i64 (highO o), fnO o]) := by
  have two : ∀ g : Nat, wc W n_expr_two [.fn g [] []] = some (.agg [.int .i64 2, .int .i64 2, .fn n_expr_two_1 [] [.imm 0 (.fn g [] []) 0]]) := fun g => by rw [e_expr_two]; rfl
  rw [e_expr_ways]
  simp only [two, Option.bind_some, c_g_i64_i64_p_mk]
  unfold lowO highO fnO
  by_cases h2 : o = 2
  · subst h2; rfl
  by_cases h3 : o = 3
  · subst h3; rfl
  by_cases h4 : o = 4
  · subst h4; rfl
  by_cases h5 : o = 5
  · subst h5; rfl
  by_cases h6 : o = 6
  · subst h6; rfl
  by_cases h7 : o = 7
  · subst h7; rfl
  by_cases h8 : o = 8
  · subst h8; rfl
  by_cases h9 : o = 9
  · subst h9; rfl
  by_cases h10 : o = 10
  · subst h10; rfl
  have hr : (decide (2 ≤ o) && decide (o ≤ 7)) = false := by
    rw [← Bool.decide_and]; exact decide_eq_false (by omega)
  rw [beq_f h2, beq_f h3, beq_f h4, beq_f h5, beq_f h6, beq_f h7, beq_f h8, beq_f h9, beq_f h10, hr]
  rfl
def partE (o c : Int) (v : Val) (n : Nat) : Bool :=
  decide (0 ≤ o) && decide (o < 11) && (decide (lowO o ≤ (n : Int)) && decide ((n : Int) ≤ highO o)) && (c == 0 || (o == 1 && decide (0 < c) && decide (c ≤ 15))) && ((v.K == 0 && v.N == 0) || (o == 0 && mayV v))
theorem w_part (e : Ex) : wc W n_expr_part [e.pv] = some (.bool (partE e.op e.col e.v e.l.length)) := by
  have h := e_expr_part e.op e.col e.v.K e.v.N (e.l.map Ex.pv)
  rw [Ex.fold] at h
  rw [h, w_ways, List.length_map]
  simp only [Option.bind_some, c_g_i64_i64_p_mk]
  have h3 : ∀ b1 b2 b3 x y z, J_expr_part_3 e.op e.col e.v.K e.v.N (e.l.map Ex.pv) b1 b2 b3 x y z = some (.bool (decide (0 ≤ e.op) && decide (e.op < 11) && b1 && b2 && b3)) := fun b1 b2 b3 x y z => by
    rw [J_expr_part_3_eq]
    have : decide (e.op ≥ 0) = decide (0 ≤ e.op) := rfl
    rw [this]
    cases decide (0 ≤ e.op) <;> cases decide (e.op < 11) <;> cases b1 <;> cases b2 <;> rfl
  have h2 : ∀ b1 b2 x y z, J_expr_part_2 e.op e.col e.v.K e.v.N (e.l.map Ex.pv) b1 b2 x y z = some (.bool (decide (0 ≤ e.op) && decide (e.op < 11) && b1 && b2 && ((e.v.K == 0 && e.v.N == 0) || (e.op == 0 && mayV e.v)))) := fun b1 b2 x y z => by
    rw [J_expr_part_2_eq]
    cases e.v.K == 0 <;> cases e.v.N == 0 <;> cases e.op == 0 <;> simp [h3, w_val_May]
  have h1 : ∀ b1 x y z, J_expr_part_1 e.op e.col e.v.K e.v.N (e.l.map Ex.pv) b1 x y z = some (.bool (decide (0 ≤ e.op) && decide (e.op < 11) && b1 && (e.col == 0 || (e.op == 1 && decide (0 < e.col) && decide (e.col ≤ 15))) && ((e.v.K == 0 && e.v.N == 0) || (e.op == 0 && mayV e.v)))) := fun b1 x y z => by
    rw [J_expr_part_1_eq]
    have : decide (e.col > 0) = decide (0 < e.col) := rfl
    rw [this]
    cases e.col == 0 <;> cases e.op == 1 <;> cases decide (0 < e.col) <;> simp [h2]
  simp only [h1]
  unfold partE
  have : decide (((e.l.length : Nat) : Int) ≥ lowO e.op) = decide (lowO e.op ≤ (e.l.length : Int)) := rfl
  rw [this]
  cases decide (lowO e.op ≤ (e.l.length : Int)) <;> simp
def stepE (d n : Int) (e : Ex) : Bool := decide (n + 1 ≤ 30) && decide (d ≤ 6) && partE e.op e.col e.v e.l.length
mutual
def mayE : Int → Int → Ex → Bool × Int
  | d, n, .mk o c v l => bif decide (n + 1 ≤ 30) && decide (d ≤ 6) && partE o c v l.length then mayL (d + 1) (n + 1) l else (false, n + 1)
def mayL : Int → Int → List Ex → Bool × Int
  | d, n, [] => (true, n)
  | d, n, e :: r => match mayE d n e with | (true, m) => mayL d m r | (false, m) => (false, m)
end
theorem mayE_eq (d n : Int) (e : Ex) : mayE d n e = bif stepE d n e then mayL (d + 1) (n + 1) e.l else (false, n + 1) := by cases e; rfl
theorem w_May1 (e : Ex) (d n : Int) (h0 : 0 ≤ n) (h1 : n ≤ 30) :
    W n_expr_May_1 false [.pv e.pv, .pv (.int .i64 d), .own 0 0] [.var false 0 (.pv (.int .i64 n))] = some (.pv (.bool (stepE d n e)), [.var false 0 (.pv (.int .i64 (n + 1)))]) := by
  have h := o_expr_May_1_o1_1 e.op e.col e.v.K e.v.N (e.l.map Ex.pv) d n
  rw [Ex.fold] at h
  rw [h, wrap64 (by omega) (by omega), w_part]
  unfold stepE
  cases decide (n + 1 ≤ 30) <;> cases decide (d ≤ 6) <;> rfl
theorem may_bounds : ∀ (k : Nat), (∀ (e : Ex) (d n : Int), e.sz ≤ k → 0 ≤ n → n ≤ 30 → 0 ≤ (mayE d n e).2 ∧ (mayE d n e).2 ≤ 31 ∧ ((mayE d n e).1 = true → (mayE d n e).2 = n + e.sz ∧ (mayE d n e).2 ≤ 30)) ∧
    (∀ (l : List Ex) (d n : Int), Ex.szL l ≤ k → 0 ≤ n → n ≤ 30 → 0 ≤ (mayL d n l).2 ∧ (mayL d n l).2 ≤ 31 ∧ ((mayL d n l).1 = true → (mayL d n l).2 = n + Ex.szL l ∧ (mayL d n l).2 ≤ 30))
  | k => by
    have hE : ∀ (e : Ex) (d n : Int), (∀ (l : List Ex) (d n : Int), Ex.szL l < e.sz → 0 ≤ n → n ≤ 30 → 0 ≤ (mayL d n l).2 ∧ (mayL d n l).2 ≤ 31 ∧ ((mayL d n l).1 = true → (mayL d n l).2 = n + Ex.szL l ∧ (mayL d n l).2 ≤ 30)) → 0 ≤ n → n ≤ 30 →
        0 ≤ (mayE d n e).2 ∧ (mayE d n e).2 ≤ 31 ∧ ((mayE d n e).1 = true → (mayE d n e).2 = n + e.sz ∧ (mayE d n e).2 ≤ 30) := fun e d n ih h0 h1 => by
      rw [mayE_eq]
      cases hs : stepE d n e with
      | false =>
        refine ⟨?_, ?_, fun h => ?_⟩
        · show 0 ≤ n + 1; omega
        · show n + 1 ≤ 31; omega
        · cases h
      | true =>
        simp only [cond_true]
        have h30 : n + 1 ≤ 30 := by
          unfold stepE at hs
          simp only [Bool.and_eq_true, decide_eq_true_eq] at hs
          exact hs.1.1
        have hsz : e.sz = Ex.szL e.l + 1 := by cases e; rfl
        obtain ⟨a, b, c⟩ := ih e.l (d + 1) (n + 1) (by omega) (by omega) h30
        exact ⟨a, b, fun h => by have := c h; omega⟩
    have hL : ∀ (l : List Ex) (d n : Int), (∀ e ∈ l, ∀ (d n : Int), 0 ≤ n → n ≤ 30 → 0 ≤ (mayE d n e).2 ∧ (mayE d n e).2 ≤ 31 ∧ ((mayE d n e).1 = true → (mayE d n e).2 = n + e.sz ∧ (mayE d n e).2 ≤ 30)) → 0 ≤ n → n ≤ 30 →
        0 ≤ (mayL d n l).2 ∧ (mayL d n l).2 ≤ 31 ∧ ((mayL d n l).1 = true → (mayL d n l).2 = n + Ex.szL l ∧ (mayL d n l).2 ≤ 30) := fun l => by
      induction l with
      | nil => intro d n _ h0 h1; refine ⟨h0, ?_, fun _ => ⟨?_, h1⟩⟩ <;> simp [mayL, Ex.szL]; omega
      | cons x r ih =>
        intro d n he h0 h1
        have k := he x (by simp) d n h0 h1
        simp only [mayL]
        cases hx : mayE d n x with
        | mk b m =>
          rw [hx] at k
          cases b with
          | false => exact ⟨k.1, k.2.1, fun h => by cases h⟩
          | true =>
            obtain ⟨k1, k2⟩ := k.2.2 rfl
            simp only at k1 k2 k ⊢
            obtain ⟨a, b, c⟩ := ih d m (fun e h => he e (by simp [h])) k.1 k2
            exact ⟨a, b, fun h => by have := c h; simp only [Ex.szL]; omega⟩
    have main : ∀ (m : Nat) (e : Ex), e.sz ≤ m → ∀ (d n : Int), 0 ≤ n → n ≤ 30 → 0 ≤ (mayE d n e).2 ∧ (mayE d n e).2 ≤ 31 ∧ ((mayE d n e).1 = true → (mayE d n e).2 = n + e.sz ∧ (mayE d n e).2 ≤ 30) := fun m => by
      induction m with
      | zero => intro e h; have := e.sz_pos; omega
      | succ m ih =>
        intro e h d n h0 h1
        exact hE e d n (fun l d n hl h0 h1 => hL l d n (fun x hx => ih x (by have := Ex.sz_mem hx; omega)) h0 h1) h0 h1
    exact ⟨fun e d n _ => main e.sz e (Nat.le_refl _) d n, fun l d n _ => hL l d n fun e _ => main e.sz e (Nat.le_refl _)⟩
theorem w_eachM : ∀ (m : Nat) (e : Ex), e.sz ≤ m → ∀ (d n : Int), e.l.length ≤ 9223372036854775807 → (∀ (x : Ex), x.sz < e.sz → x.l.length ≤ 9223372036854775807) → 0 ≤ n → n ≤ 30 → d ≤ 9 → -9 ≤ d →
    W n_expr_each false [.pv e.pv, .pv (.int .i64 d), .fnv n_expr_May_1 [] [.own 0 0]] [.var false 0 (.pv (.int .i64 n))] = some (.pv (.bool (mayE d n e).1), [.var false 0 (.pv (.int .i64 (mayE d n e).2))])
  | 0, e, h, _, _, _, _, _, _, _, _ => by have := e.sz_pos; omega
  | m + 1, e, h, d, n, hl, hx, h0, h1, hd, hd' => by
    have he := o_expr_each_o1_1 e.op e.col e.v.K e.v.N (e.l.map Ex.pv) d n
    rw [Ex.fold] at he
    rw [he, w_May1 e d n h0 h1, mayE_eq]
    simp only [Option.bind_some, k_5b106d_mk, c_b_mk]
    cases hs : stepE d n e with
    | false => rfl
    | true =>
      simp only [Bool.not_true, cond_false, cond_true, List.length_map]
      have hs' := hs
      unfold stepE at hs'
      simp only [Bool.and_eq_true, decide_eq_true_eq] at hs'
      obtain ⟨⟨h30, h6⟩, _⟩ := hs'
      have hsz : e.sz = Ex.szL e.l + 1 := by cases e; rfl
      have loop : ∀ (k i : Nat) (n' : Int), i + k = e.l.length → 0 ≤ n' → n' ≤ 30 →
          L_expr_each_o1_1 d (e.l.map Ex.pv) (e.l.length : Int) (i : Int) n' = some (.pv (.bool (mayL (d + 1) n' (e.l.drop i)).1), [.var false 0 (.pv (.int .i64 (mayL (d + 1) n' (e.l.drop i)).2))]) := fun k => by
        induction k with
        | zero =>
          intro i n' hi _ _
          rw [L_expr_each_o1_1_eq, show i = e.l.length by omega]
          simp only [ge_len, cond_false, List.drop_length, mayL]
        | succ k ih =>
          intro i n' hi h0' h1'
          have hi' : i < e.l.length := by omega
          have hm := Ex.sz_mem (List.getElem_mem hi')
          rw [L_expr_each_o1_1_eq, List.drop_eq_getElem_cons hi']
          simp only [lt_len hi', nat_le, cond_true, Int.toNat_natCast, List.getElem?_map, List.getElem?_eq_getElem hi', Option.map_some, Option.bind_some, Ex.c_mk, Ex.fold]
          rw [wrap64 (by omega) (by omega), w_eachM m e.l[i] (by omega) (d + 1) n' (hx _ (by omega)) (fun x hx' => hx x (by omega)) h0' h1' (by omega) (by omega)]
          simp only [Option.bind_some, k_5b106d_mk, c_b_mk, mayL]
          have hb := (may_bounds e.l[i].sz).1 e.l[i] (d + 1) n' (Nat.le_refl _) h0' h1'
          cases hy : mayE (d + 1) n' e.l[i] with
          | mk b q =>
            rw [hy] at hb
            cases b with
            | false => rfl
            | true =>
              simp only [Bool.not_true, cond_false]
              rw [wrap_succ (by omega)]
              exact ih (i + 1) q (by omega) hb.1 (hb.2.2 rfl).2
      have := loop e.l.length 0 (n + 1) (by omega) (by omega) h30
      rw [List.drop_zero] at this
      exact this
def mayT (e : Ex) : Bool := (mayE 1 0 e).1
def Ex.ok (e : Ex) : Prop := ∀ x : Ex, x.sz ≤ e.sz → x.l.length ≤ 9223372036854775807
theorem Ex.ok_of {e : Ex} (h : e.sz ≤ 9223372036854775807) : e.ok := fun x hx => by
  have h1 : x.sz = Ex.szL x.l + 1 := by cases x; rfl
  have := Ex.szL_ge x.l
  omega
theorem w_expr_May (e : Ex) (h : e.ok) : wc W n_expr_May [e.pv] = some (.bool (mayT e)) := by
  have he := e_expr_May e.op e.col e.v.K e.v.N (e.l.map Ex.pv)
  rw [Ex.fold] at he
  rw [he, w_eachM e.sz e (Nat.le_refl _) 1 0 (h e (Nat.le_refl _)) (fun x hx => h x (by omega)) (by omega) (by omega) (by omega) (by omega)]
  rfl
theorem mayT_sz {e : Ex} (h : mayT e = true) : e.sz ≤ 30 := by
  have := ((may_bounds e.sz).1 e 1 0 (Nat.le_refl _) (by omega) (by omega)).2.2 h
  omega
end Go.Cf

namespace Go.Cf
open Go Go.Ab
set_option linter.unusedVariables false
set_option linter.unusedSimpArgs false
def VOk (v : Val) : Prop := I64 v.N
theorem inI_i64 {n : Int} (h : inI n = true) : I64 n := by unfold inI at h; simp only [Bool.and_eq_true, decide_eq_true_eq] at h; exact h
theorem oddV_ok {l : List Val} {v : Val} (h : oddV l = some v) : VOk v := by
  unfold oddV at h
  cases h1 : l.any (fun v => (fineV v).K == 2) with
  | true => rw [h1] at h; simp at h; subst h; exact ⟨by decide, by decide⟩
  | false =>
    rw [h1] at h
    cases h2 : l.any (fun v => (fineV v).K == 1) with
    | true => rw [h2] at h; simp at h; subst h; exact ⟨by decide, by decide⟩
    | false => rw [h2] at h; cases h
theorem badV_ok : VOk badV := ⟨by decide, by decide⟩
theorem oneV_ok (b : Bool) : VOk (oneV b) := by cases b <;> exact ⟨by decide, by decide⟩
theorem reckV_ok {a b : Val} {f : Int → Int → Option Int} (hf : ∀ n, f a.N b.N = some n → I64 n) : VOk (reckV a b f) := by
  unfold reckV
  cases h : oddV [a, b] with
  | some v => exact oddV_ok h
  | none =>
    simp only
    cases hn : f a.N b.N with
    | none => exact badV_ok
    | some n => exact hf n hn
def opV (o : Int) (l : List Val) : Val :=
  bif o == 2 then reckV (l.getD 0 badV) (l.getD 1 badV) addO else bif o == 3 then reckV (l.getD 0 badV) (l.getD 1 badV) subO else
  bif o == 4 then reckV (l.getD 0 badV) (l.getD 1 badV) mulO else bif o == 5 then reckV (l.getD 0 badV) (l.getD 1 badV) divO else
  bif o == 6 then eqV (l.getD 0 badV) (l.getD 1 badV) else bif o == 7 then ltV (l.getD 0 badV) (l.getD 1 badV) else
  bif o == 8 then andV l else bif o == 9 then orV l else notV (l.getD 0 badV)
theorem ok0 : VOk ⟨0, 0⟩ := ⟨by decide, by decide⟩
theorem ok1 : VOk ⟨0, 1⟩ := ⟨by decide, by decide⟩
theorem andV_ok (l : List Val) : VOk (andV l) := by
  unfold andV
  cases l.any falseV with
  | true => exact ok0
  | false => cases h : oddV l with
    | some v => exact oddV_ok h
    | none => exact ok1
theorem orV_ok (l : List Val) : VOk (orV l) := by
  unfold orV
  cases l.any trueV with
  | true => exact ok1
  | false => cases h : oddV l with
    | some v => exact oddV_ok h
    | none => exact ok0
theorem divO_ok {x y : Int} (hx : I64 x) (hy : I64 y) {n : Int} (h : divO x y = some n) : I64 n := by
  unfold divO at h
  cases hc : (y == 0 || (x == -9223372036854775808 && y == -1)) with
  | true => rw [hc] at h; cases h
  | false =>
    rw [hc] at h
    simp only [cond_false, Option.some.injEq] at h
    subst h
    obtain ⟨a1, a2⟩ := hx
    have h1 : (Int.tdiv x y).natAbs ≤ x.natAbs := by
      rw [Int.natAbs_tdiv]
      exact Nat.div_le_self _ _
    refine ⟨by omega, ?_⟩
    by_cases hm : Int.tdiv x y = 9223372036854775808
    · exfalso
      have hA : x = -9223372036854775808 := by omega
      simp only [Bool.or_eq_false_iff, Bool.and_eq_false_iff, beq_eq_false_iff_ne, ne_eq] at hc
      have hy1 : y ≠ -1 := by
        rcases hc.2 with h | h
        · exact absurd hA h
        · exact h
      subst hA
      have h2 : (Int.tdiv (-9223372036854775808) y).natAbs = 9223372036854775808 / y.natAbs := by rw [Int.natAbs_tdiv]; rfl
      rw [hm] at h2
      have h3 : y.natAbs = 1 := by
        rcases Nat.lt_or_ge y.natAbs 2 with h | h
        · have := hc.1; omega
        · have : 9223372036854775808 / y.natAbs ≤ 9223372036854775808 / 2 := Nat.div_le_div_left h (by omega)
          have h4 : (9223372036854775808 : Int).natAbs = 9223372036854775808 := rfl
          omega
      have hb2 : y = 1 := by omega
      rw [hb2] at hm
      simp at hm
    · omega
theorem getD_ok {l : List Val} (h : ∀ v ∈ l, VOk v) (i : Nat) : VOk (l.getD i badV) := by
  rw [List.getD_eq_getElem?_getD]
  cases e : l[i]? with
  | none => exact badV_ok
  | some v => exact h v (List.mem_of_getElem? e)
theorem opV_ok (o : Int) {l : List Val} (h : ∀ v ∈ l, VOk v) : VOk (opV o l) := by
  have a := getD_ok h 0
  have b := getD_ok h 1
  unfold opV
  have o1 : ∀ {f : Int → Int → Int} {x y n : Int}, (bif inI (f x y) then some (f x y) else none) = some n → I64 n := fun {f x y n} hn => by
    cases hi : inI (f x y) with
    | true => rw [hi] at hn; simp at hn; subst hn; exact inI_i64 hi
    | false => rw [hi] at hn; cases hn
  cases o == 2 with
  | true => exact reckV_ok fun n hn => o1 (f := fun x y => x + y) hn
  | false =>
  cases o == 3 with
  | true => exact reckV_ok fun n hn => o1 (f := fun x y => x - y) hn
  | false =>
  cases o == 4 with
  | true => exact reckV_ok fun n hn => o1 (f := fun x y => x * y) hn
  | false =>
  cases o == 5 with
  | true => exact reckV_ok fun n hn => divO_ok a b hn
  | false =>
  cases o == 6 with
  | true =>
    show VOk (eqV _ _)
    unfold eqV
    cases e : oddV [l.getD 0 badV, l.getD 1 badV] with
    | some v => exact oddV_ok e
    | none => exact oneV_ok _
  | false =>
  cases o == 7 with
  | true =>
    show VOk (ltV _ _)
    unfold ltV
    cases e : oddV [l.getD 0 badV, l.getD 1 badV] with
    | some v => exact oddV_ok e
    | none => exact oneV_ok _
  | false =>
  cases o == 8 with
  | true => exact andV_ok l
  | false =>
  cases o == 9 with
  | true => exact orV_ok l
  | false =>
    show VOk (notV _)
    unfold notV
    cases e : oddV [l.getD 0 badV] with
    | some v => exact oddV_ok e
    | none => exact oneV_ok _
theorem two_of {l : List Val} (h : l.length = 2) : ∃ a b, l = [a, b] := by
  match l, h with
  | [a, b], _ => exact ⟨a, b, rfl⟩
theorem w_two1 (l : List Val) (g : Nat) (v : Val) (a b : Val) (hl : l = [a, b]) (hg : wc W g [a.pv, b.pv] = some v.pv) : wc W n_expr_two_1 [rowp l, .imm 0 (.fn g [] []) 0] = some v.pv := by
  subst hl
  have h := e_expr_two_1 ([a, b].map Val.pv) (.fn g [] [])
  rw [rowp_fold] at h
  rw [h]
  simp only [List.map_cons, List.map_nil, List.getElem?_cons_zero, List.getElem?_cons_succ, Option.bind_some, Val.c_mk, Val.fold, asFn_mk, List.nil_append, List.append_nil, hg]
theorem w_op (o : Int) (l : List Val) (h0 : 0 ≤ o) (h11 : o < 11) (h2 : 2 ≤ o) (hlo : lowO o ≤ (l.length : Int)) (hhi : (l.length : Int) ≤ highO o) (hl : ∀ v ∈ l, VOk v) :
    ∃ g fs cs, fnO o = .fn g fs cs ∧ wc W g (fs ++ [rowp l] ++ cs) = some (opV o l).pv := by
  have two : (2 ≤ o ∧ o ≤ 7) → ∃ a b, l = [a, b] := fun h => two_of (by
    unfold lowO highO at *
    rw [decide_eq_true h.1, decide_eq_true h.2] at hlo hhi
    simp only [Bool.and_self, cond_true] at hlo hhi
    omega)
  have hlen : l.length ≤ 9223372036854775807 := by
    unfold highO at hhi
    cases hb : (decide (2 ≤ o) && decide (o ≤ 7)) <;> rw [hb] at hhi
    · cases h10 : (o == 10) <;> rw [h10] at hhi
      · cases h8 : (o == 8 || o == 9) <;> rw [h8] at hhi <;> simp only [cond_true, cond_false] at hhi <;> omega
      · simp only [cond_true, cond_false] at hhi; omega
    · simp only [cond_true] at hhi; omega
  by_cases e2 : o = 2
  · obtain ⟨a, b, e⟩ := two (by omega)
    subst e2; subst e
    exact ⟨_, _, _, rfl, w_two1 _ _ _ a b rfl (w_Add a b (hl a (by simp)) (hl b (by simp)))⟩
  by_cases e3 : o = 3
  · obtain ⟨a, b, e⟩ := two (by omega)
    subst e3; subst e
    exact ⟨_, _, _, rfl, w_two1 _ _ _ a b rfl (w_Sub a b (hl a (by simp)) (hl b (by simp)))⟩
  by_cases e4 : o = 4
  · obtain ⟨a, b, e⟩ := two (by omega)
    subst e4; subst e
    exact ⟨_, _, _, rfl, w_two1 _ _ _ a b rfl (w_Mul a b (hl a (by simp)) (hl b (by simp)))⟩
  by_cases e5 : o = 5
  · obtain ⟨a, b, e⟩ := two (by omega)
    subst e5; subst e
    exact ⟨_, _, _, rfl, w_two1 _ _ _ a b rfl (w_Div a b (hl a (by simp)) (hl b (by simp)))⟩
  by_cases e6 : o = 6
  · obtain ⟨a, b, e⟩ := two (by omega)
    subst e6; subst e
    exact ⟨_, _, _, rfl, w_two1 _ _ _ a b rfl (w_Eq a b)⟩
  by_cases e7 : o = 7
  · obtain ⟨a, b, e⟩ := two (by omega)
    subst e7; subst e
    exact ⟨_, _, _, rfl, w_two1 _ _ _ a b rfl (w_Lt a b)⟩
  by_cases e8 : o = 8
  · subst e8
    refine ⟨_, _, _, rfl, ?_⟩
    have h := e_expr_ways_1 (l.map Val.pv)
    rw [rowp_fold] at h
    show wc W n_expr_ways_1 [rowp l] = _
    rw [h, w_And l hlen]; rfl
  by_cases e9 : o = 9
  · subst e9
    refine ⟨_, _, _, rfl, ?_⟩
    have h := e_expr_ways_2 (l.map Val.pv)
    rw [rowp_fold] at h
    show wc W n_expr_ways_2 [rowp l] = _
    rw [h, w_Or l hlen]; rfl
  have e10 : o = 10 := by omega
  subst e10
  refine ⟨_, _, _, rfl, ?_⟩
  have h := e_expr_ways_3 (l.map Val.pv)
  rw [rowp_fold] at h
  show wc W n_expr_ways_3 [rowp l] = _
  rw [h]
  have h1 : l.length = 1 := by
    have a : lowO 10 = 1 := rfl
    have b : highO 10 = 1 := rfl
    rw [a] at hlo; rw [b] at hhi; omega
  match l, h1 with
  | [a], _ =>
    simp only [List.map_cons, List.map_nil, List.getElem?_cons_zero, Option.bind_some, Val.c_mk, Val.fold, w_Not]
    rfl
mutual
def evalE (look : Int → Val) : Ex → Val
  | .mk o c v l => bif o == 0 then v else bif o == 1 then look c else opV o (evalL look l)
def evalL (look : Int → Val) : List Ex → List Val
  | [] => []
  | e :: r => evalE look e :: evalL look r
end
theorem evalL_map (look : Int → Val) : ∀ l : List Ex, evalL look l = l.map (evalE look)
  | [] => rfl
  | e :: r => by rw [evalL, evalL_map look r]; rfl
theorem evalE_eq (look : Int → Val) (e : Ex) : evalE look e = bif e.op == 0 then e.v else bif e.op == 1 then look e.col else opV e.op (e.l.map (evalE look)) := by
  cases e; rw [evalE, evalL_map]; rfl
mutual
def Ex.vals : Ex → Prop
  | .mk _ _ v l => VOk v ∧ Ex.valsL l
def Ex.valsL : List Ex → Prop
  | [] => True
  | e :: r => e.vals ∧ Ex.valsL r
end
theorem Ex.valsL_mem : ∀ {l : List Ex}, Ex.valsL l → ∀ e ∈ l, e.vals
  | x :: r, h, e, he => by
    rcases List.mem_cons.1 he with rfl | he
    · exact h.1
    · exact Ex.valsL_mem h.2 e he
theorem Ex.vals_v {e : Ex} (h : e.vals) : VOk e.v ∧ ∀ x ∈ e.l, x.vals := by
  cases e; exact ⟨h.1, Ex.valsL_mem h.2⟩
mutual
def partsE : Ex → Bool
  | .mk o c v l => partE o c v l.length && partsL l
def partsL : List Ex → Bool
  | [] => true
  | e :: r => partsE e && partsL r
end
theorem partsL_all : ∀ l : List Ex, partsL l = l.all partsE
  | [] => rfl
  | e :: r => by rw [partsL, partsL_all r]; rfl
theorem partsE_eq (e : Ex) : partsE e = (partE e.op e.col e.v e.l.length && e.l.all partsE) := by cases e; rw [partsE, partsL_all]; rfl
theorem parts_of_may : ∀ (m : Nat) (e : Ex), e.sz ≤ m → ∀ d n, (mayE d n e).1 = true → partsE e = true
  | 0, e, h, _, _, _ => by have := e.sz_pos; omega
  | m + 1, e, h, d, n, hm => by
    rw [mayE_eq] at hm
    cases hs : stepE d n e with
    | false => rw [hs] at hm; cases hm
    | true =>
      rw [hs] at hm
      simp only [cond_true] at hm
      have hp : partE e.op e.col e.v e.l.length = true := by unfold stepE at hs; simp only [Bool.and_eq_true] at hs; exact hs.2
      rw [partsE_eq, hp, Bool.true_and, List.all_eq_true]
      have hsz : e.sz = Ex.szL e.l + 1 := by cases e; rfl
      have hl : ∀ (l : List Ex) (d n : Int), Ex.szL l ≤ m → (mayL d n l).1 = true → ∀ x ∈ l, partsE x = true := fun l => by
        induction l with
        | nil => intro _ _ _ _ x hx; cases hx
        | cons y r ih =>
          intro d n hsz hm x hx
          simp only [Ex.szL] at hsz
          simp only [mayL] at hm
          cases hy : mayE d n y with
          | mk b q =>
            rw [hy] at hm
            cases b with
            | false => cases hm
            | true =>
              rcases List.mem_cons.1 hx with rfl | hx
              · exact parts_of_may m x (by omega) d n (by rw [hy])
              · exact ih d q (by omega) hm x hx
      exact hl e.l (d + 1) (n + 1) (by omega) hm
def lookR (cols : List Int) (row : List Val) (c : Int) : Val := bif decide (idxI cols (fun x => c == x) < 0) then badV else bif decide (idxI cols (fun x => c == x) ≥ (row.length : Int)) then badV else row.getD (idxI cols (fun x => c == x)).toNat badV
theorem w_Index (l : List Int) (n : Int) (hl : l.length ≤ 9223372036854775807) : wc W n_slices_Index_int_int [intsp l, .int .i64 n] = some (.int .i64 (idxI l (fun x => n == x))) := by
  have h := e_slices_Index_int_int (l.map intp) n
  rw [intsp_fold] at h
  rw [h, List.length_map]
  refine loop_idx (fun i => L_slices_Index_int_int_1 (l.map intp) n l.length i) l (fun x => n == x) (fun n => some (.int .i64 n)) (fun i hi => ?_) ?_
  · rw [L_slices_Index_int_int_1_eq]
    simp only [lt_len hi, nat_le, cond_true, Int.toNat_natCast, List.getElem?_map, List.getElem?_eq_getElem hi, Option.map_some, Option.bind_some, c_intp]
    rw [wrap64 (by omega) (by omega)]
  · rw [L_slices_Index_int_int_1_eq]; simp
theorem lookR_ok (cols : List Int) {row : List Val} (h : ∀ v ∈ row, VOk v) (c : Int) : VOk (lookR cols row c) := by
  unfold lookR
  cases decide (idxI cols (fun x => c == x) < 0) with
  | true => exact badV_ok
  | false =>
    cases decide (idxI cols (fun x => c == x) ≥ (row.length : Int)) with
    | true => exact badV_ok
    | false => exact getD_ok h _
theorem evalE_ok (look : Int → Val) (hlk : ∀ c, VOk (look c)) : ∀ (m : Nat) (e : Ex), e.sz ≤ m → e.vals → VOk (evalE look e)
  | 0, e, h, _ => by have := e.sz_pos; omega
  | m + 1, e, h, hv => by
    rw [evalE_eq]
    obtain ⟨h1, h2⟩ := Ex.vals_v hv
    have hsz : e.sz = Ex.szL e.l + 1 := by cases e; rfl
    cases e.op == 0 with
    | true => exact h1
    | false =>
      cases e.op == 1 with
      | true => exact hlk _
      | false =>
        refine opV_ok _ fun v hv => ?_
        obtain ⟨x, hx, rfl⟩ := List.mem_map.1 hv
        exact evalE_ok look hlk m x (by have := Ex.sz_mem hx; omega) (h2 x hx)
theorem w_eval (cols : List Int) (row : List Val) (hc : cols.length ≤ 9223372036854775807) (hr : ∀ v ∈ row, VOk v) : ∀ (m : Nat) (e : Ex), e.sz ≤ m → e.sz ≤ 4294967295 → partsE e = true → e.vals →
    wc W n_expr_eval [e.pv, intsp cols, rowp row] = some (evalE (lookR cols row) e).pv
  | 0, e, h, _, _, _ => by have := e.sz_pos; omega
  | m + 1, e, h, hs, hp, hv => by
    have he := e_expr_eval e.op e.col e.v.K e.v.N (e.l.map Ex.pv) (cols.map intp) (row.map Val.pv)
    rw [Ex.fold, intsp_fold, rowp_fold] at he
    rw [he, evalE_eq]
    have hsz : e.sz = Ex.szL e.l + 1 := by cases e; rfl
    have hle := Ex.szL_ge e.l
    rw [partsE_eq, Bool.and_eq_true, List.all_eq_true] at hp
    obtain ⟨hp1, hp2⟩ := hp
    obtain ⟨hv1, hv2⟩ := Ex.vals_v hv
    cases h0 : e.op == 0 with
    | true => rfl
    | false =>
      cases h1 : e.op == 1 with
      | true =>
        simp only [cond_false, cond_true, w_Index cols e.col hc, Option.bind_some, c_i64_mk, List.length_map]
        unfold lookR
        cases ha : decide (idxI cols (fun x => e.col == x) < 0) with
        | true => rfl
        | false =>
          simp only [cond_false]
          have hb0 : decide (idxI cols (fun x => e.col == x) ≥ (row.length : Int)) = decide (idxI cols (fun x => e.col == x) ≥ (row.length : Int)) := rfl
          cases hb : decide (idxI cols (fun x => e.col == x) ≥ (row.length : Int)) with
          | true => rfl
          | false =>
            simp only [cond_false]
            have ha' := of_decide_eq_false ha
            have hb' := of_decide_eq_false hb
            rw [J_expr_eval_1_eq, decide_eq_true (show 0 ≤ idxI cols (fun x => e.col == x) by omega)]
            have hlt : (idxI cols (fun x => e.col == x)).toNat < row.length := by omega
            simp only [cond_true, List.getElem?_map, List.getElem?_eq_getElem hlt, Option.map_some, Option.bind_some, Val.c_mk, Val.fold, List.getD_eq_getElem?_getD, Option.getD_some]
      | false =>
        simp only [cond_false, List.length_map]
        have hop : 2 ≤ e.op ∧ e.op < 11 ∧ lowO e.op ≤ (e.l.length : Int) ∧ (e.l.length : Int) ≤ highO e.op := by
          unfold partE at hp1
          simp only [Bool.and_eq_true, decide_eq_true_eq] at hp1
          have a := beq_eq_false_iff_ne.1 h0
          have b := beq_eq_false_iff_ne.1 h1
          omega
        have hok : ∀ v ∈ e.l.map (evalE (lookR cols row)), VOk v := fun v hv => by
          obtain ⟨x, hx, rfl⟩ := List.mem_map.1 hv
          exact evalE_ok _ (lookR_ok cols hr) x.sz x (Nat.le_refl _) (hv2 x hx)
        have loop : ∀ (k i : Nat) (a b : Int), i + k = e.l.length →
            L_expr_eval_2 (cols.map intp) (row.map Val.pv) e.op e.col e.v.K e.v.N (e.l.map Ex.pv) (e.l.map Ex.pv) (e.l.length : Int) (i : Int) a b (((e.l.take i).map (evalE (lookR cols row))).map Val.pv) = some (opV e.op (e.l.map (evalE (lookR cols row)))).pv := fun k => by
          induction k with
          | zero =>
            intro i a b hi
            rw [L_expr_eval_2_eq, show i = e.l.length by omega]
            simp only [ge_len, cond_false, w_ways, Option.bind_some, c_g_i64_i64_p_mk, List.take_length]
            obtain ⟨g, fs, cs, k1, k2⟩ := w_op e.op (e.l.map (evalE (lookR cols row))) (by omega) hop.2.1 hop.1 (by rw [List.length_map]; exact hop.2.2.1) (by rw [List.length_map]; exact hop.2.2.2) hok
            rw [k1]
            simp only [asFn_mk, Option.bind_some, rowp_fold, k2, Val.c_mk, Val.fold]
          | succ k ih =>
            intro i a b hi
            have hi' : i < e.l.length := by omega
            have hx := List.getElem_mem hi'
            have hm := Ex.sz_mem hx
            rw [L_expr_eval_2_eq]
            simp only [lt_len hi', nat_le, cond_true, Int.toNat_natCast, List.getElem?_map, List.getElem?_eq_getElem hi', Option.map_some, Option.bind_some, Ex.c_mk, Ex.fold, intsp_fold, rowp_fold]
            rw [w_eval cols row hc hr m e.l[i] (by omega) (by omega) (hp2 _ hx) (hv2 _ hx)]
            simp only [Option.bind_some, Val.c_mk, Val.fold, List.length_map, List.length_take, Nat.min_eq_left (Nat.le_of_lt hi'), Bool.true_and, decide_eq_true (show i + 1 ≤ 4294967296 by omega), cond_true]
            rw [wrap_succ (by omega)]
            have := ih (i + 1) a b (by omega)
            rw [List.take_succ_eq_append_getElem hi', List.map_append, List.map_append] at this
            exact this
        have := loop e.l.length 0 0 0 (by omega)
        rw [List.take_zero] at this
        exact this
def evalT (e : Ex) (cols : List Int) (row : List Val) : Val := bif mayT e then evalE (lookR cols row) e else badV
theorem w_Eval (e : Ex) (cols : List Int) (row : List Val) (he : e.ok) (hv : e.vals) (hc : cols.length ≤ 9223372036854775807) (hr : ∀ v ∈ row, VOk v) :
    wc W n_expr_Eval [e.pv, intsp cols, rowp row] = some (evalT e cols row).pv := by
  have h := e_expr_Eval e.op e.col e.v.K e.v.N (e.l.map Ex.pv) (cols.map intp) (row.map Val.pv)
  rw [Ex.fold, intsp_fold, rowp_fold] at h
  rw [h, w_expr_May e he]
  simp only [Option.bind_some, c_b_mk]
  unfold evalT
  cases hm : mayT e with
  | false => rfl
  | true =>
    have h30 := mayT_sz hm
    simp only [Bool.not_true, cond_false, cond_true, w_eval cols row hc hr e.sz e (Nat.le_refl _) (by omega) (parts_of_may e.sz e (Nat.le_refl _) 1 0 hm) hv, Option.bind_some, Val.c_mk, Val.fold]
def keepE (e : Ex) (cols : List Int) (row : List Val) : Bool := trueV (evalT e cols row)
theorem w_Keeps (e : Ex) (cols : List Int) (row : List Val) (he : e.ok) (hv : e.vals) (hc : cols.length ≤ 9223372036854775807) (hr : ∀ v ∈ row, VOk v) :
    wc W n_expr_Keeps [e.pv, intsp cols, rowp row] = some (.bool (keepE e cols row)) := by
  have h := e_expr_Keeps e.op e.col e.v.K e.v.N (e.l.map Ex.pv) (cols.map intp) (row.map Val.pv)
  rw [Ex.fold, intsp_fold, rowp_fold] at h
  rw [h, w_Eval e cols row he hv hc hr]
  simp only [Option.bind_some, Val.c_mk, Val.fold, w_True, c_b_mk]
  rfl
mutual
def colsE : Ex → List Int
  | .mk o c _ l => (bif o == 1 then [c] else []) ++ colsL l
def colsL : List Ex → List Int
  | [] => []
  | e :: r => colsE e ++ colsL r
end
theorem colsE_eq (e : Ex) : colsE e = (bif e.op == 1 then [e.col] else []) ++ colsL e.l := by cases e; rfl
theorem colsL_drop (l : List Ex) (i : Nat) (hi : i < l.length) : colsL (l.drop i) = colsE l[i] ++ colsL (l.drop (i + 1)) := by rw [List.drop_eq_getElem_cons hi]; rfl
theorem cols_sz : ∀ (m : Nat), (∀ e : Ex, e.sz ≤ m → (colsE e).length ≤ e.sz) ∧ ∀ l : List Ex, Ex.szL l ≤ m → (colsL l).length ≤ Ex.szL l
  | 0 => ⟨fun e h => by have := e.sz_pos; omega, fun l h => by
      cases l with
      | nil => exact Nat.le_refl _
      | cons e r => have := e.sz_pos; simp only [Ex.szL] at h; omega⟩
  | m + 1 => by
    obtain ⟨h1, h2⟩ := cols_sz m
    have hE : ∀ e : Ex, e.sz ≤ m + 1 → (colsE e).length ≤ e.sz := fun e h => by
      have hsz : e.sz = Ex.szL e.l + 1 := by cases e; rfl
      have := h2 e.l (by omega)
      rw [colsE_eq, List.length_append]
      cases e.op == 1 <;> simp <;> omega
    refine ⟨hE, fun l => ?_⟩
    induction l with
    | nil => exact fun _ => Nat.le_refl _
    | cons e r ih =>
      intro h
      simp only [Ex.szL] at h
      have a := hE e (by omega)
      have b := ih (by omega)
      simp only [colsL, Ex.szL, List.length_append]; omega
theorem w_Cols1 (e : Ex) (d : Int) (acc : List Int) (h : acc.length + 1 ≤ 4294967296) :
    W n_expr_Cols_1 false [.pv e.pv, .pv (.int .i64 d), .own 0 0] [.var false 0 (.view 1 0 none), .row false 0 0 (acc.map intp)] =
      some (.pv (.bool true), [.var false 0 (.view 1 0 none), .row false 0 0 ((acc ++ bif e.op == 1 then [e.col] else []).map intp)]) := by
  have he := o_expr_Cols_1_o2_1 e.op e.col e.v.K e.v.N (e.l.map Ex.pv) d (acc.map intp)
  rw [Ex.fold] at he
  rw [he, List.length_map]
  cases e.op == 1 with
  | false => simp
  | true =>
    simp only [Bool.true_and, decide_eq_true h, cond_true, List.map_append, List.map_cons, List.map_nil]
    rfl
theorem w_eachC : ∀ (m : Nat) (e : Ex), e.sz ≤ m → ∀ (d : Int) (acc : List Int), acc.length + e.sz ≤ 4294967295 →
    W n_expr_each false [.pv e.pv, .pv (.int .i64 d), .fnv n_expr_Cols_1 [] [.own 0 0]] [.var false 0 (.view 1 0 none), .row false 0 0 (acc.map intp)] =
      some (.pv (.bool true), [.var false 0 (.view 1 0 none), .row false 0 0 ((acc ++ colsE e).map intp)])
  | 0, e, h, _, _, _ => by have := e.sz_pos; omega
  | m + 1, e, h, d, acc, ha => by
    have he := o_expr_each_o2_1 e.op e.col e.v.K e.v.N (e.l.map Ex.pv) d (acc.map intp)
    rw [Ex.fold] at he
    have hsz : e.sz = Ex.szL e.l + 1 := by cases e; rfl
    have hge := Ex.szL_ge e.l
    have hc := (cols_sz e.sz).1 e (Nat.le_refl _)
    have hcl := (cols_sz (Ex.szL e.l)).2 e.l (Nat.le_refl _)
    rw [he, w_Cols1 e d acc (by omega)]
    simp only [Option.bind_some, k_b2223f_mk, c_b_mk, Bool.not_true, cond_false, List.length_map]
    have hx : (acc ++ bif e.op == 1 then [e.col] else []).length ≤ acc.length + 1 := by rw [List.length_append]; cases e.op == 1 <;> simp
    have loop : ∀ (k i : Nat) (ac : List Int), i + k = e.l.length → ac.length + Ex.szL (e.l.drop i) ≤ 4294967295 →
        L_expr_each_o2_1 d (e.l.map Ex.pv) (e.l.length : Int) (i : Int) (ac.map intp) = some (.pv (.bool true), [.var false 0 (.view 1 0 none), .row false 0 0 ((ac ++ colsL (e.l.drop i)).map intp)]) := fun k => by
      induction k with
      | zero =>
        intro i ac hi _
        rw [L_expr_each_o2_1_eq, show i = e.l.length by omega]
        simp [ge_len, colsL]
      | succ k ih =>
        intro i ac hi hb
        have hi' : i < e.l.length := by omega
        have hm := Ex.sz_mem (List.getElem_mem hi')
        rw [Ex.sz_drop e.l i hi'] at hb
        have hci := (cols_sz e.l[i].sz).1 e.l[i] (Nat.le_refl _)
        rw [L_expr_each_o2_1_eq]
        simp only [lt_len hi', nat_le, cond_true, Int.toNat_natCast, List.getElem?_map, List.getElem?_eq_getElem hi', Option.map_some, Option.bind_some, Ex.c_mk, Ex.fold]
        rw [w_eachC m e.l[i] (by omega) _ ac (by omega)]
        simp only [Option.bind_some, k_b2223f_mk, c_b_mk, Bool.not_true, cond_false]
        rw [wrap_succ (by omega), ih (i + 1) (ac ++ colsE e.l[i]) (by omega) (by rw [List.length_append]; omega), colsL_drop e.l i hi', List.append_assoc]
    have := loop e.l.length 0 (acc ++ bif e.op == 1 then [e.col] else []) (by omega) (by rw [List.drop_zero]; omega)
    rw [List.drop_zero, List.append_assoc, ← colsE_eq] at this
    exact this
def colsT (e : Ex) : List Int := bif mayT e then Lib.compact (sortI (colsE e)) else []
theorem w_Cols (e : Ex) (he : e.ok) : wc W n_expr_Cols [e.pv] = some (intsp (colsT e)) := by
  have h := e_expr_Cols e.op e.col e.v.K e.v.N (e.l.map Ex.pv)
  rw [Ex.fold] at h
  rw [h, w_expr_May e he]
  simp only [Option.bind_some, c_b_mk]
  unfold colsT
  cases hm : mayT e with
  | false => rfl
  | true =>
    have h30 := mayT_sz hm
    have hc := (cols_sz e.sz).1 e (Nat.le_refl _)
    have h1 := w_eachC e.sz e (Nat.le_refl _) 1 [] (by simp; omega)
    have h2 := x_slices_Sort_int_int false 0 (colsE e) (by omega)
    have h3 := x_slices_Compact_int_int 0 (sortI (colsE e)) (by rw [sortI_len]; omega)
    simp only [List.map_nil, List.nil_append] at h1
    simp only [Bool.not_true, cond_false, cond_true, h1, Option.bind_some, k_b2223f_mk, c_b_mk]
    have e1 : ∀ l : List Int, l.map intp = l.map (PV.int .i64) := fun _ => rfl
    rw [e1, h2]
    simp only [Option.bind_some, k_cad770_mk, h3, k_b7636c_mk, c_s0_mk]
    rfl
theorem mem_compact (zs : List Int) (c : Int) : c ∈ Lib.compact zs ↔ c ∈ zs := by
  unfold Lib.compact Lib.compactUpTo
  simp only [List.mem_map, List.mem_filter, List.mem_range]
  constructor
  · rintro ⟨j, ⟨hj, _⟩, rfl⟩
    have : (zs.toArray[j]! : Int) = zs[j] := by simp [getElem!_pos, hj]
    rw [this]; exact List.getElem_mem hj
  · intro h
    have hex : ∃ j, j < zs.length ∧ zs.toArray[j]! = c := by
      obtain ⟨j, hj, e⟩ := List.mem_iff_getElem.1 h
      exact ⟨j, hj, by simp [getElem!_pos, hj, e]⟩
    have hmin : ∀ n : Nat, ∀ j, j ≤ n → j < zs.length → zs.toArray[j]! = c → ∃ i, (i < zs.length ∧ Lib.keeps zs.toArray i = true) ∧ zs.toArray[i]! = c := fun n => by
      induction n with
      | zero =>
        intro j hj hl hc
        have : j = 0 := by omega
        subst this
        exact ⟨0, ⟨hl, by simp [Lib.keeps]⟩, hc⟩
      | succ n ih =>
        intro j hj hl hc
        by_cases hk : Lib.keeps zs.toArray j = true
        · exact ⟨j, ⟨hl, hk⟩, hc⟩
        · have hk' : ¬ (j = 0 ∨ zs.toArray[j]! ≠ zs.toArray[j - 1]!) := fun h => hk (by unfold Lib.keeps; exact decide_eq_true h)
          have h0 : j ≠ 0 := fun e => hk' (.inl e)
          have h1 : zs.toArray[j]! = zs.toArray[j - 1]! := Classical.byContradiction fun e => hk' (.inr e)
          exact ih (j - 1) (by omega) (by omega) (by rw [← h1]; exact hc)
    obtain ⟨j, hj, hc⟩ := hex
    exact hmin j j (Nat.le_refl _) hj hc
theorem mem_colsT {e : Ex} (h : mayT e = true) (c : Int) : c ∈ colsT e ↔ c ∈ colsE e := by
  unfold colsT
  rw [h, cond_true, mem_compact]
  unfold sortI
  exact List.mem_mergeSort
theorem evalE_congr {f g : Int → Val} : ∀ (m : Nat) (e : Ex), e.sz ≤ m → (∀ c ∈ colsE e, f c = g c) → evalE f e = evalE g e
  | 0, e, h, _ => by have := e.sz_pos; omega
  | m + 1, e, h, hc => by
    rw [evalE_eq, evalE_eq]
    have hsz : e.sz = Ex.szL e.l + 1 := by cases e; rfl
    rw [colsE_eq] at hc
    cases e.op == 0 with
    | true => rfl
    | false =>
      cases h1 : e.op == 1 with
      | true => exact hc e.col (by rw [h1]; simp)
      | false =>
        simp only [cond_false]
        congr 1
        have hmem : ∀ (l : List Ex) (x : Ex), x ∈ l → ∀ c ∈ colsE x, c ∈ colsL l := fun l => by
          induction l with
          | nil => intro x hx; cases hx
          | cons y r ih =>
            intro x hx c hc
            simp only [colsL, List.mem_append]
            rcases List.mem_cons.1 hx with rfl | hx
            · exact .inl hc
            · exact .inr (ih x hx c hc)
        exact List.map_congr_left fun x hx => evalE_congr m x (by have := Ex.sz_mem hx; omega) fun c hcx => hc c (by rw [List.mem_append]; exact .inr (hmem e.l x hx c hcx))
theorem keepE_congr {e : Ex} {cols cols' : List Int} {row row' : List Val} (h : ∀ c ∈ colsT e, lookR cols row c = lookR cols' row' c) : keepE e cols row = keepE e cols' row' := by
  unfold keepE evalT
  cases hm : mayT e with
  | false => rfl
  | true => simp only [cond_true]; rw [evalE_congr e.sz e (Nat.le_refl _) fun c hc => h c ((mem_colsT hm c).2 hc)]
end Go.Cf

namespace Go.Cf
open Go Go.Ab
set_option linter.unusedVariables false
set_option linter.unusedSimpArgs false
def bagp (c : List Int) (r : List (List Val)) : PV := .agg [intsp c, tabp r]
@[simp] theorem bagp_fold (c : List Int) (r : List (List Val)) : PV.agg [intsp c, tabp r] = bagp c r := rfl
@[simp] theorem c_bagp (c : List Int) (r : List (List Val)) {R : Type} (f : List PV → List PV → Option R) : c_g_s0_s0 (bagp c r) f = f (c.map intp) (r.map rowp) := rfl
theorem any_not {α : Type} (l : List α) (f : α → Bool) : (!l.any fun x => !f x) = l.all f := by
  induction l with
  | nil => rfl
  | cons a l ih => simp only [List.any_cons, List.all_cons, Bool.not_or, Bool.not_not, ih]
def upd (f : Nat → Bool) (v : Nat) : Nat → Bool := fun k => bif k == 0 + v * 1 then true else f k
def goC : (Nat → Bool) → List Int → Option (Nat → Bool)
  | f, [] => some f
  | f, c :: r => bif (decide (0 ≤ c) && decide (c ≤ 15)) && !f c.toNat then goC (upd f c.toNat) r else none
noncomputable def M1 (l1 l2 l3 : List PV) (n i : Int) (f : Nat → Bool) : Option PV := L_bag_May_1 l1 l2 l3 n i (f 0) (f 1) (f 2) (f 3) (f 4) (f 5) (f 6) (f 7) (f 8) (f 9) (f 10) (f 11) (f 12) (f 13) (f 14) (f 15)
noncomputable def M2 (l1 l2 l3 : List PV) (n i : Int) (f : Nat → Bool) : Option PV := L_bag_May_2 l1 l2 l3 n i (f 0) (f 1) (f 2) (f 3) (f 4) (f 5) (f 6) (f 7) (f 8) (f 9) (f 10) (f 11) (f 12) (f 13) (f 14) (f 15)
theorem load16 (f : Nat → Bool) : ∀ v : Nat, v < 16 → PV.load 17 (.agg [.bool (f 0), .bool (f 1), .bool (f 2), .bool (f 3), .bool (f 4), .bool (f 5), .bool (f 6), .bool (f 7), .bool (f 8), .bool (f 9), .bool (f 10), .bool (f 11), .bool (f 12), .bool (f 13), .bool (f 14), .bool (f 15)]) (0 + v * 1) 0 = some (.bool (f v))
  | 0, _ => rfl | 1, _ => rfl | 2, _ => rfl | 3, _ => rfl | 4, _ => rfl | 5, _ => rfl | 6, _ => rfl | 7, _ => rfl
  | 8, _ => rfl | 9, _ => rfl | 10, _ => rfl | 11, _ => rfl | 12, _ => rfl | 13, _ => rfl | 14, _ => rfl | 15, _ => rfl
  | n + 16, h => by omega
theorem may1_loop (cols : List Int) (rows : List PV) (hl : cols.length ≤ 9223372036854775807) : ∀ (k i : Nat) (f : Nat → Bool), i + k = cols.length →
    M1 (cols.map intp) rows (cols.map intp) (cols.length : Int) (i : Int) f = match goC f (cols.drop i) with | some f' => M2 (cols.map intp) rows rows ((rows.length : Nat) : Int) 0 f' | none => some (.bool false)
  | 0, i, f, h => by
    unfold M1
    rw [L_bag_May_1_eq, show i = cols.length by omega]
    simp only [ge_len, cond_false, List.drop_length, goC]
    rfl
  | k + 1, i, f, h => by
    have hi : i < cols.length := by omega
    unfold M1
    rw [L_bag_May_1_eq, List.drop_eq_getElem_cons hi, goC]
    simp only [lt_len hi, nat_le, cond_true, Int.toNat_natCast, List.getElem?_map, List.getElem?_eq_getElem hi, Option.map_some, Option.bind_some, c_intp]
    by_cases h0 : cols[i] < 0
    · rw [decide_eq_true h0, decide_eq_false (show ¬ 0 ≤ cols[i] by omega)]; rfl
    rw [decide_eq_false h0, decide_eq_true (show 0 ≤ cols[i] by omega)]
    by_cases h15 : cols[i] > 15
    · rw [decide_eq_true h15, decide_eq_false (show ¬ cols[i] ≤ 15 by omega)]; rfl
    rw [decide_eq_false h15, decide_eq_true (show cols[i] ≤ 15 by omega), decide_eq_true (show cols[i] < 16 by omega)]
    simp only [cond_false, Bool.and_self, cond_true, Bool.true_and, load16 f cols[i].toNat (by omega), Option.bind_some, c_b_mk]
    cases hf : f cols[i].toNat with
    | true => rfl
    | false =>
      simp only [cond_false, Bool.not_false, cond_true, decide_eq_true (show 0 + cols[i].toNat * 1 + 1 ≤ 16 by omega), Bool.and_true]
      rw [wrap64 (by omega) (by omega)]
      exact may1_loop cols rows hl k (i + 1) (upd f cols[i].toNat) (by omega)
theorem goC_iff : ∀ (cols : List Int) (f : Nat → Bool), (goC f cols).isSome = true ↔ (∀ c ∈ cols, (0 ≤ c ∧ c ≤ 15) ∧ f c.toNat = false) ∧ cols.Nodup
  | [], f => by simp [goC]
  | c :: r, f => by
    unfold goC
    cases hb : (decide (0 ≤ c) && decide (c ≤ 15)) && !f c.toNat with
    | false =>
      simp only [cond_false, Option.isSome_none, Bool.false_eq_true, false_iff, not_and]
      intro h
      have := h c (by simp)
      rw [decide_eq_true this.1.1, decide_eq_true this.1.2, this.2] at hb
      cases hb
    | true =>
      simp only [cond_true]
      rw [goC_iff r]
      simp only [Bool.and_eq_true, decide_eq_true_eq, Bool.not_eq_true'] at hb
      obtain ⟨⟨c0, c15⟩, hf⟩ := hb
      simp only [List.nodup_cons, List.mem_cons, forall_eq_or_imp, upd, Nat.zero_add, Nat.mul_one]
      constructor
      · rintro ⟨h1, h2⟩
        refine ⟨⟨⟨⟨c0, c15⟩, hf⟩, fun x hx => ⟨(h1 x hx).1, ?_⟩⟩, ?_, h2⟩
        · have := (h1 x hx).2
          cases e : (x.toNat == c.toNat) with
          | true => rw [e] at this; cases this
          | false => rw [e] at this; exact this
        · intro hc
          have := (h1 c hc).2
          rw [beq_t rfl] at this; cases this
      · rintro ⟨⟨_, h1⟩, h2, h3⟩
        refine ⟨fun x hx => ⟨(h1 x hx).1, ?_⟩, h3⟩
        have hne : x ≠ c := fun e => h2 (e ▸ hx)
        have := (h1 x hx).1
        rw [beq_f (show x.toNat ≠ c.toNat by omega)]
        exact (h1 x hx).2
def colsB (cols : List Int) : Bool := (goC (fun _ => false) cols).isSome
theorem colsB_iff (cols : List Int) : colsB cols = true ↔ (∀ c ∈ cols, 0 ≤ c ∧ c ≤ 15) ∧ cols.Nodup := by
  unfold colsB
  rw [goC_iff]
  simp
def rowB (n : Nat) (r : List Val) : Bool := decide (r.length = n) && r.all mayV
def mayB (c : List Int) (r : List (List Val)) : Bool := colsB c && r.all (rowB c.length) && decide (r.length ≤ 5000)
theorem w_mayB1 (v : Val) : wc W n_bag_May_1 [v.pv] = some (.bool (!mayV v)) := by
  have h := e_bag_May_1 v.K v.N
  rw [Val.fold] at h
  rw [h, w_val_May]; rfl
theorem w_bag_May (c : List Int) (r : List (List Val)) (hc : c.length ≤ 9223372036854775807) (hr : r.length ≤ 9223372036854775807) (hl : ∀ x ∈ r, x.length ≤ 9223372036854775807) : wc W n_bag_May [bagp c r] = some (.bool (mayB c r)) := by
  have h := e_bag_May (c.map intp) (r.map rowp)
  rw [intsp_fold, tabp_fold, bagp_fold] at h
  have h1 := may1_loop c (r.map rowp) hc c.length 0 (fun _ => false) (by omega)
  rw [List.drop_zero] at h1
  rw [h, List.length_map]
  refine h1.trans ?_
  unfold mayB colsB
  cases hg : goC (fun _ => false) c with
  | none => rfl
  | some f =>
    simp only [Option.isSome_some, Bool.true_and, List.length_map]
    rw [loop_all (fun i => M2 (c.map intp) (r.map rowp) (r.map rowp) (r.length : Int) i f) r.length (fun i => (r[i]?).all (rowB c.length)) (some (.bool false)) (some (.bool (decide (r.length ≤ 5000)))) ?_ ?_, all_get]
    · cases r.all (rowB c.length) <;> rfl
    · intro i hi
      unfold M2
      rw [L_bag_May_2_eq]
      simp only [List.length_map, lt_len hi, nat_le, cond_true, Int.toNat_natCast, List.getElem?_map, List.getElem?_eq_getElem hi, Option.map_some, Option.bind_some, c_rowp, rowp_fold, Option.all_some, w_anyVal r[i] n_bag_May_1 [] [] (fun v => !mayV v) (hl _ (List.getElem_mem hi)) (fun x _ => w_mayB1 x), c_b_mk]
      rw [wrap64 (by omega) (by omega)]
      unfold rowB
      by_cases e : r[i].length = c.length
      · rw [bne_f (by rw [e]), decide_eq_true e, ← any_not]
        cases r[i].any fun v => !mayV v <;> rfl
      · rw [bne_t (by omega), decide_eq_false e]; rfl
    · unfold M2
      rw [L_bag_May_2_eq]
      simp only [List.length_map, ge_len, cond_false]
      congr 2
      have : ((r.length : Int) ≤ 5000) = (r.length ≤ 5000) := by apply propext; omega
      simp only [this]
theorem cat_len {α : Type} (ls : List (List α)) (i : Nat) (hi : i < ls.length) : (ls.drop i).flatten.length = ls[i].length + (ls.drop (i + 1)).flatten.length := by
  rw [List.drop_eq_getElem_cons hi, List.flatten_cons, List.length_append]
theorem grow_int (n : Nat) (h : n ≤ 4294967296) : W n_slices_Grow_int_int true [.nil 0, .pv (.int .i64 (n : Int))] [] = some (.view 0 0 none, [.row false 0 0 []]) := by
  rw [o_slices_Grow_int_int_r0_1, decide_eq_false (show ¬ (n : Int) < 0 by omega)]
  simp only [cond_false, J_slices_Grow_int_int_r0_1_eq]
  rw [wrap64 (by omega) (by omega)]
  by_cases h0 : (n : Int) - 0 > 0
  · rw [decide_eq_true h0, decide_eq_true (show (n : Int) - 0 ≤ 4294967296 by omega)]
    have : decide ((0 : Int) < (n : Int) - 0) = true := decide_eq_true h0
    simp
  · rw [decide_eq_false h0]; rfl
theorem catI1 (ls : List (List Int)) (hn : ls.length ≤ 4294967296) (hl : ls.flatten.length ≤ 4294967296) : ∀ (k i s : Nat), i + k = ls.length → s + (ls.drop i).flatten.length = ls.flatten.length →
    L_slices_Concat_int_int_1 (ls.map intsp) (s : Int) (ls.map intsp) (ls.length : Int) (i : Int) = L_slices_Concat_int_int_2 (ls.map intsp) (ls.length : Int) 0 []
  | 0, i, s, h, hs => by
    rw [L_slices_Concat_int_int_1_eq, show i = ls.length by omega]
    simp only [ge_len, cond_false, grow_int s (by omega), Option.bind_some, List.length_map]
    rfl
  | k + 1, i, s, h, hs => by
    have hi : i < ls.length := by omega
    have hc := cat_len ls i hi
    rw [L_slices_Concat_int_int_1_eq]
    simp only [lt_len hi, nat_le, cond_true, Int.toNat_natCast, List.getElem?_map, List.getElem?_eq_getElem hi, Option.map_some, Option.bind_some, c_intsp, List.length_map]
    rw [show IntKind.wrap .i64 ((s : Int) + (ls[i].length : Int)) = ((s + ls[i].length : Nat) : Int) by rw [wrap64 (by omega) (by omega)]; omega, decide_eq_false (by omega), wrap_succ (by omega)]
    exact catI1 ls hn hl k (i + 1) (s + ls[i].length) (by omega) (by omega)
theorem catI2 (ls : List (List Int)) (hn : ls.length ≤ 4294967296) : ∀ (k i : Nat) (acc : List Int), i + k = ls.length → acc.length + (ls.drop i).flatten.length ≤ 4294967296 →
    L_slices_Concat_int_int_2 (ls.map intsp) (ls.length : Int) (i : Int) (acc.map intp) = some (intsp (acc ++ (ls.drop i).flatten))
  | 0, i, acc, h, hl => by
    rw [L_slices_Concat_int_int_2_eq, show i = ls.length by omega]
    simp
  | k + 1, i, acc, h, hl => by
    have hi : i < ls.length := by omega
    have hc := cat_len ls i hi
    rw [L_slices_Concat_int_int_2_eq]
    simp only [lt_len hi, nat_le, cond_true, Int.toNat_natCast, List.getElem?_map, List.getElem?_eq_getElem hi, Option.map_some, Option.bind_some, c_intsp, List.length_map, Bool.true_and, decide_eq_true (show acc.length + ls[i].length ≤ 4294967296 by omega)]
    rw [wrap_succ (by omega)]
    have := catI2 ls hn k (i + 1) (acc ++ ls[i]) (by omega) (by simp only [List.length_append]; omega)
    rw [List.map_append] at this
    rw [this, List.drop_eq_getElem_cons hi, List.flatten_cons, List.append_assoc]
theorem w_ConcatI (ls : List (List Int)) (hn : ls.length ≤ 4294967296) (hl : ls.flatten.length ≤ 4294967296) : wc W n_slices_Concat_int_int [.slice 0 (ls.map intsp)] = some (intsp ls.flatten) := by
  rw [e_slices_Concat_int_int, List.length_map]
  refine (catI1 ls hn hl ls.length 0 0 (by omega) (by simp)).trans ?_
  have := catI2 ls hn ls.length 0 [] (by omega) (by simpa using hl)
  simpa using this
theorem grow_val (n : Nat) (h : n ≤ 4294967296) : W n_slices_Grow_api_Val_api_Val true [.nil 3, .pv (.int .i64 (n : Int))] [] = some (.view 0 0 none, [.row false 0 3 []]) := by
  rw [o_slices_Grow_api_Val_api_Val_r0_1, decide_eq_false (show ¬ (n : Int) < 0 by omega)]
  simp only [cond_false, J_slices_Grow_api_Val_api_Val_r0_1_eq]
  rw [wrap64 (by omega) (by omega)]
  by_cases h0 : (n : Int) - 0 > 0
  · rw [decide_eq_true h0, decide_eq_true (show (n : Int) - 0 ≤ 4294967296 by omega)]
    have : decide ((0 : Int) < (n : Int) - 0) = true := decide_eq_true h0
    simp
  · rw [decide_eq_false h0]; rfl
theorem catV1 (ls : List (List Val)) (hn : ls.length ≤ 4294967296) (hl : ls.flatten.length ≤ 4294967296) : ∀ (k i s : Nat), i + k = ls.length → s + (ls.drop i).flatten.length = ls.flatten.length →
    L_slices_Concat_api_Val_api_Val_1 (ls.map rowp) (s : Int) (ls.map rowp) (ls.length : Int) (i : Int) = L_slices_Concat_api_Val_api_Val_2 (ls.map rowp) (ls.length : Int) 0 []
  | 0, i, s, h, hs => by
    rw [L_slices_Concat_api_Val_api_Val_1_eq, show i = ls.length by omega]
    simp only [ge_len, cond_false, grow_val s (by omega), Option.bind_some, List.length_map]
    rfl
  | k + 1, i, s, h, hs => by
    have hi : i < ls.length := by omega
    have hc := cat_len ls i hi
    rw [L_slices_Concat_api_Val_api_Val_1_eq]
    simp only [lt_len hi, nat_le, cond_true, Int.toNat_natCast, List.getElem?_map, List.getElem?_eq_getElem hi, Option.map_some, Option.bind_some, c_rowp, List.length_map]
    rw [show IntKind.wrap .i64 ((s : Int) + (ls[i].length : Int)) = ((s + ls[i].length : Nat) : Int) by rw [wrap64 (by omega) (by omega)]; omega, decide_eq_false (by omega), wrap_succ (by omega)]
    exact catV1 ls hn hl k (i + 1) (s + ls[i].length) (by omega) (by omega)
theorem catV2 (ls : List (List Val)) (hn : ls.length ≤ 4294967296) : ∀ (k i : Nat) (acc : List Val), i + k = ls.length → acc.length + (ls.drop i).flatten.length ≤ 4294967296 →
    L_slices_Concat_api_Val_api_Val_2 (ls.map rowp) (ls.length : Int) (i : Int) (acc.map Val.pv) = some (rowp (acc ++ (ls.drop i).flatten))
  | 0, i, acc, h, hl => by
    rw [L_slices_Concat_api_Val_api_Val_2_eq, show i = ls.length by omega]
    simp
  | k + 1, i, acc, h, hl => by
    have hi : i < ls.length := by omega
    have hc := cat_len ls i hi
    rw [L_slices_Concat_api_Val_api_Val_2_eq]
    simp only [lt_len hi, nat_le, cond_true, Int.toNat_natCast, List.getElem?_map, List.getElem?_eq_getElem hi, Option.map_some, Option.bind_some, c_rowp, List.length_map, Bool.true_and, decide_eq_true (show acc.length + ls[i].length ≤ 4294967296 by omega)]
    rw [wrap_succ (by omega)]
    have := catV2 ls hn k (i + 1) (acc ++ ls[i]) (by omega) (by simp only [List.length_append]; omega)
    rw [List.map_append] at this
    rw [this, List.drop_eq_getElem_cons hi, List.flatten_cons, List.append_assoc]
theorem w_ConcatV (ls : List (List Val)) (hn : ls.length ≤ 4294967296) (hl : ls.flatten.length ≤ 4294967296) : wc W n_slices_Concat_api_Val_api_Val [.slice 0 (ls.map rowp)] = some (rowp ls.flatten) := by
  rw [e_slices_Concat_api_Val_api_Val, List.length_map]
  refine (catV1 ls hn hl ls.length 0 0 (by omega) (by simp)).trans ?_
  have := catV2 ls hn ls.length 0 [] (by omega) (by simpa using hl)
  simpa using this
def prodR (r s : List (List Val)) : List (List Val) := r.flatMap fun x => s.map fun y => x ++ y
theorem cross3 (C D E F : List PV) (x : List Val) (A : List PV) (n i : Int) (s : List (List Val)) (hx : x.length ≤ 100) (hs : ∀ y ∈ s, y.length ≤ 100) (hsn : s.length ≤ 5000) (X Y : List PV) : ∀ (k j : Nat) (acc : List (List Val)), j + k = s.length → acc.length + k ≤ 4294967295 →
    L_bag_Cross_3 C D (x.map Val.pv) A n i (s.map rowp) (s.length : Int) (j : Int) X Y E (acc.map rowp) = L_bag_Cross_2 C D A n (IntKind.wrap .i64 (i + 1)) X Y E ((acc ++ (s.drop j).map fun y => x ++ y).map rowp)
  | 0, j, acc, h, hl => by
    rw [L_bag_Cross_3_eq, show j = s.length by omega]
    simp
  | k + 1, j, acc, h, hl => by
    have hj : j < s.length := by omega
    have hy := hs _ (List.getElem_mem hj)
    rw [L_bag_Cross_3_eq]
    have hc := w_ConcatV [x, s[j]] (by simp) (by simp; omega)
    simp only [List.map_cons, List.map_nil, List.flatten_cons, List.flatten_nil, List.append_nil] at hc
    simp only [lt_len hj, nat_le, cond_true, Int.toNat_natCast, List.getElem?_map, List.getElem?_eq_getElem hj, Option.map_some, Option.bind_some, c_rowp, rowp_fold, hc, List.length_map, Bool.true_and, decide_eq_true (show acc.length + 1 ≤ 4294967296 by omega)]
    rw [wrap_succ (by omega)]
    have := cross3 C D E F x A n i s hx hs hsn X Y k (j + 1) (acc ++ [x ++ s[j]]) (by omega) (by simp; omega)
    simp only [List.map_append, List.map_cons, List.map_nil] at this
    simp only [rowp, List.map_append] at this ⊢
    rw [this, List.drop_eq_getElem_cons hj]
    simp only [List.map_cons, List.append_assoc, List.cons_append, List.nil_append, rowp, List.map_append]
theorem cross2 (C D E F : List PV) (r s : List (List Val)) (hr : ∀ x ∈ r, x.length ≤ 100) (hs : ∀ y ∈ s, y.length ≤ 100) (hl : r.length ≤ 5000) (hsn : s.length ≤ 5000) (X Y : List PV) : ∀ (k i : Nat) (acc : List (List Val)), i + k = r.length → acc.length + (prodR (r.drop i) s).length ≤ 4294967295 →
    L_bag_Cross_2 C (s.map rowp) (r.map rowp) (r.length : Int) (i : Int) X Y E (acc.map rowp) = some (.tup [.agg [.slice 0 E, tabp (acc ++ prodR (r.drop i) s)], .bool true])
  | 0, i, acc, h, hb => by
    rw [L_bag_Cross_2_eq, show i = r.length by omega]
    simp [prodR]
  | k + 1, i, acc, h, hb => by
    have hi : i < r.length := by omega
    have hp : prodR (r.drop i) s = (s.map fun y => r[i] ++ y) ++ prodR (r.drop (i + 1)) s := by
      rw [List.drop_eq_getElem_cons hi]; rfl
    rw [hp] at hb ⊢
    simp only [List.length_append, List.length_map] at hb
    rw [L_bag_Cross_2_eq]
    simp only [lt_len hi, nat_le, cond_true, Int.toNat_natCast, List.getElem?_map, List.getElem?_eq_getElem hi, Option.map_some, Option.bind_some, c_rowp, List.length_map]
    have h3 := cross3 C (s.map rowp) E F r[i] (r.map rowp) (r.length : Int) (i : Int) s (hr _ (List.getElem_mem hi)) hs hsn X Y s.length 0 acc (by omega) (by omega)
    refine h3.trans ?_
    rw [wrap_succ (by omega), List.drop_zero]
    have := cross2 C D E F r s hr hs hl hsn X Y k (i + 1) (acc ++ s.map fun y => r[i] ++ y) (by omega) (by simp only [List.length_append, List.length_map]; omega)
    rw [this, List.append_assoc]
def crossB (c : List Int) (r : List (List Val)) (d : List Int) (s : List (List Val)) : Option (List Int × List (List Val)) :=
  bif mayB c r && mayB d s && mayB (c ++ d) [] && decide (r.length * s.length ≤ 5000) then some (c ++ d, prodR r s) else none
def bagR (x : Option (List Int × List (List Val))) : PV := match x with | some b => .tup [bagp b.1 b.2, .bool true] | none => .tup [bagp [] [], .bool false]
theorem colsB_len {c : List Int} (h : colsB c = true) : c.length ≤ 16 := by
  obtain ⟨h1, h2⟩ := (colsB_iff c).1 h
  have hsub : c ⊆ (List.range 16).map fun n : Nat => (n : Int) := by
    intro x hx
    have := h1 x hx
    rw [List.mem_map]
    exact ⟨x.toNat, by simp; omega, by omega⟩
  have := List.Nodup.length_le_of_subset h2 hsub
  simpa using this
theorem mayB_row {c : List Int} {r : List (List Val)} (h : mayB c r = true) : c.length ≤ 16 ∧ r.length ≤ 5000 ∧ ∀ x ∈ r, x.length = c.length ∧ x.all mayV = true := by
  unfold mayB at h
  simp only [Bool.and_eq_true, decide_eq_true_eq, List.all_eq_true] at h
  refine ⟨colsB_len h.1.1, h.2, fun x hx => ?_⟩
  have := h.1.2 x hx
  unfold rowB at this
  simp only [Bool.and_eq_true, decide_eq_true_eq] at this
  exact this
theorem prodR_len (r s : List (List Val)) : (prodR r s).length = r.length * s.length := by
  unfold prodR
  induction r with
  | nil => simp
  | cons a r ih => rw [List.flatMap_cons, List.length_append, ih, List.length_map, List.length_cons, Nat.succ_mul]; omega
theorem w_Cross (c : List Int) (r : List (List Val)) (d : List Int) (s : List (List Val)) (hcd : c.length + d.length ≤ 4294967296) (hr : r.length ≤ 9223372036854775807) (hs : s.length ≤ 9223372036854775807)
    (hrl : ∀ x ∈ r, x.length ≤ 9223372036854775807) (hsl : ∀ x ∈ s, x.length ≤ 9223372036854775807) : wc W n_bag_Cross [bagp c r, bagp d s] = some (bagR (crossB c r d s)) := by
  have h := e_bag_Cross (c.map intp) (r.map rowp) (d.map intp) (s.map rowp)
  rw [intsp_fold, intsp_fold, tabp_fold, tabp_fold, bagp_fold, bagp_fold] at h
  have hc := w_ConcatI [c, d] (by simp) (by simpa using hcd)
  simp only [List.map_cons, List.map_nil, List.flatten_cons, List.flatten_nil, List.append_nil] at hc
  have e0 : PV.agg [intsp (c ++ d), PV.slice 0 []] = bagp (c ++ d) [] := rfl
  rw [h, hc]
  simp only [Option.bind_some, c_intsp, intsp_fold, e0, w_bag_May c r (by omega) hr hrl, w_bag_May d s (by omega) hs hsl, w_bag_May (c ++ d) [] (by simp; omega) (by simp) (by simp), c_b_mk, List.length_map]
  unfold crossB
  cases h1 : mayB c r with
  | false => rfl
  | true =>
    cases h2 : mayB d s with
    | false => rfl
    | true =>
      cases h3 : mayB (c ++ d) [] with
      | false => rfl
      | true =>
        obtain ⟨a1, a2, a3⟩ := mayB_row h1
        obtain ⟨b1, b2, b3⟩ := mayB_row h2
        have hm : r.length * s.length ≤ 5000 * 5000 := Nat.mul_le_mul a2 b2
        have hw : IntKind.wrap .i64 ((r.length : Int) * (s.length : Int)) = ((r.length * s.length : Nat) : Int) := by
          rw [← Int.natCast_mul, wrap64 (by omega) (by omega)]
        rw [hw]
        by_cases h4 : r.length * s.length ≤ 5000
        · rw [decide_eq_true h4, decide_eq_false (show ¬ ((r.length * s.length : Nat) : Int) > 5000 by omega)]
          simp only [Bool.not_true, cond_false, Bool.and_self, cond_true, J_bag_Cross_1_eq, List.length_map]
          have := cross2 (d.map intp) [] ((c ++ d).map intp) [] r s (fun x hx => by have := (a3 x hx).1; omega) (fun x hx => by have := (b3 x hx).1; omega) a2 b2 [] [] r.length 0 [] (by omega) (by rw [List.drop_zero, prodR_len]; simp; omega)
          simp only [List.map_nil, List.drop_zero, List.nil_append] at this
          exact this
        · rw [decide_eq_false h4, decide_eq_true (show ((r.length * s.length : Nat) : Int) > 5000 by omega)]
          rfl
end Go.Cf

namespace Go.Cf
open Go Go.Ab
set_option linter.unusedVariables false
set_option linter.unusedSimpArgs false
mutual
def Ex.lens : Ex → Prop
  | .mk _ _ _ l => l.length ≤ 9223372036854775807 ∧ Ex.lensL l
def Ex.lensL : List Ex → Prop
  | [] => True
  | e :: r => e.lens ∧ Ex.lensL r
end
theorem Ex.lensL_mem : ∀ {l : List Ex}, Ex.lensL l → ∀ e ∈ l, e.lens
  | x :: r, h, e, he => by
    rcases List.mem_cons.1 he with rfl | he
    · exact h.1
    · exact Ex.lensL_mem h.2 e he
theorem Ex.lens_l {e : Ex} (h : e.lens) : e.l.length ≤ 9223372036854775807 ∧ ∀ x ∈ e.l, x.lens := by cases e; exact ⟨h.1, Ex.lensL_mem h.2⟩
theorem w_sizeR : ∀ (k : Nat) (e : Ex), e.sz ≤ k → e.lens → ∀ m : Nat, m ≤ 1000000 → wc W n_roadbookref02_size [e.pv, .int .i64 (m : Int)] = some (.int .i64 ((min e.sz (m + 1) : Nat) : Int))
  | 0, e, h, _, _, _ => by have := e.sz_pos; omega
  | k + 1, e, h, he, m, hm => by
    have hh := e_roadbookref02_size e.op e.col e.v.K e.v.N (e.l.map Ex.pv) (m : Int)
    rw [Ex.fold] at hh
    rw [hh]
    have hsz : e.sz = Ex.szL e.l + 1 := by cases e; rfl
    obtain ⟨hl, hx⟩ := Ex.lens_l he
    have loop : ∀ (q i n : Nat), i + q = e.l.length → n ≤ m + 1 →
        L_roadbookref02_size_1 (m : Int) e.op e.col e.v.K e.v.N (e.l.map Ex.pv) (n : Int) (i : Int) = some (.int .i64 ((min (n + Ex.szL (e.l.drop i)) (m + 1) : Nat) : Int)) := fun q => by
      induction q with
      | zero =>
        intro i n hi hn
        rw [L_roadbookref02_size_1_eq, show i = e.l.length by omega, List.length_map]
        simp only [ge_len, cond_false, List.drop_length, Ex.szL, Nat.add_zero, Nat.min_eq_left hn]
      | succ q ih =>
        intro i n hi hn
        have hi' : i < e.l.length := by omega
        rw [L_roadbookref02_size_1_eq, List.length_map]
        simp only [lt_len hi', cond_true]
        by_cases hnm : n ≤ m
        · have hm' := Ex.sz_mem (List.getElem_mem hi')
          rw [decide_eq_true (show (n : Int) ≤ (m : Int) by omega), cond_true, J_roadbookref02_size_2_eq]
          simp only [nat_le, cond_true, Int.toNat_natCast, List.getElem?_map, List.getElem?_eq_getElem hi', Option.map_some, Option.bind_some, Ex.c_mk, Ex.fold]
          rw [wrap64 (by omega) (by omega), show ((m : Int) - (n : Int)) = ((m - n : Nat) : Int) by omega, w_sizeR k e.l[i] (by omega) (hx _ (List.getElem_mem hi')) (m - n) (by omega)]
          simp only [Option.bind_some, c_i64_mk]
          rw [show ((n : Int) + ((min e.l[i].sz (m - n + 1) : Nat) : Int)) = ((n + min e.l[i].sz (m - n + 1) : Nat) : Int) by omega, wrap_nat (by omega), wrap_succ (by omega), ih (i + 1) (n + min e.l[i].sz (m - n + 1)) (by omega) (by omega), Ex.sz_drop e.l i hi']
          congr 3
          omega
        · rw [decide_eq_false (show ¬ (n : Int) ≤ (m : Int) by omega), cond_false]
          congr 3
          omega
    have := loop e.l.length 0 1 (by omega) (by omega)
    rw [List.drop_zero] at this
    rw [show (1 : Int) = ((1 : Nat) : Int) from rfl, show (0 : Int) = ((0 : Nat) : Int) from rfl, this]
    congr 3
    omega
theorem w_FewR (e : Ex) (he : e.lens) : wc W n_roadbookref02_Few [e.pv, .int .i64 60] = some (.bool (decide (e.sz ≤ 60))) := by
  have h := e_roadbookref02_Few e.op e.col e.v.K e.v.N (e.l.map Ex.pv) 60
  rw [Ex.fold] at h
  rw [h, show (60 : Int) = ((60 : Nat) : Int) from rfl, w_sizeR e.sz e (Nat.le_refl _) he 60 (by omega)]
  simp only [Option.bind_some, c_i64_mk]
  congr 3
  first | (rw [decide_eq_decide]; omega) | exact propext (by omega)
def exsp (l : List Ex) : PV := .slice 6 (l.map Ex.pv)
theorem exsp_fold (l : List Ex) : PV.slice 6 (l.map Ex.pv) = exsp l := rfl
def lightB (l : List Ex) : Bool := decide (l.length ≤ 4) && l.all fun e => decide (e.sz ≤ 60)
theorem w_light (l : List Ex) (hl : l.length ≤ 9223372036854775807) (he : ∀ e ∈ l, e.lens) : wc W n_roadbooklaw03_light [exsp l] = some (.bool (lightB l)) := by
  have h := e_roadbooklaw03_light (l.map Ex.pv)
  rw [exsp_fold] at h
  rw [h, List.length_map]
  have loop : ∀ (q i : Nat) (b : Bool), i + q = l.length → L_roadbooklaw03_light_1 (l.map Ex.pv) b (i : Int) = some (.bool (b && (l.drop i).all fun e => decide (e.sz ≤ 60))) := fun q => by
    induction q with
    | zero =>
      intro i b hi
      rw [L_roadbooklaw03_light_1_eq, show i = l.length by omega, List.length_map]
      simp [ge_len]
    | succ q ih =>
      intro i b hi
      have hi' : i < l.length := by omega
      rw [L_roadbooklaw03_light_1_eq, List.length_map]
      simp only [lt_len hi', cond_true]
      cases b with
      | false => rfl
      | true =>
        rw [cond_true, J_roadbooklaw03_light_2_eq]
        simp only [nat_le, cond_true, Int.toNat_natCast, List.getElem?_map, List.getElem?_eq_getElem hi', Option.map_some, Option.bind_some, Ex.c_mk, Ex.fold, w_FewR _ (he _ (List.getElem_mem hi')), c_b_mk]
        rw [wrap_succ (by omega), ih (i + 1) _ (by omega), List.drop_eq_getElem_cons hi', List.all_cons, Bool.true_and]
  have := loop l.length 0 (decide ((l.length : Int) ≤ 4)) (by omega)
  rw [List.drop_zero] at this
  rw [show (0 : Int) = ((0 : Nat) : Int) from rfl, this]
  unfold lightB
  congr 3
  first | (rw [decide_eq_decide]; omega) | exact propext (by omega)
theorem lightB_of {l : List Ex} (h : lightB l = true) : l.length ≤ 4 ∧ ∀ e ∈ l, e.ok := by
  unfold lightB at h
  simp only [Bool.and_eq_true, decide_eq_true_eq, List.all_eq_true] at h
  exact ⟨h.1, fun e he => Ex.ok_of (by have := h.2 e he; omega)⟩
def fewB (c : List Int) (r : List (List Val)) (m : Nat) : Bool := decide (r.length ≤ m) && decide (c.length ≤ 20) && r.all fun x => decide (x.length ≤ 20)
theorem w_few (c : List Int) (r : List (List Val)) (m : Nat) (hr : r.length ≤ 9223372036854775807) : wc W n_roadbooklaw03_few [bagp c r, .int .i64 (m : Int)] = some (.bool (fewB c r m)) := by
  have h := e_roadbooklaw03_few (c.map intp) (r.map rowp) (m : Int)
  rw [intsp_fold, tabp_fold, bagp_fold] at h
  rw [h, List.length_map, List.length_map]
  unfold fewB
  by_cases h1 : r.length ≤ m
  · rw [decide_eq_true h1, decide_eq_false (show ¬ (r.length : Int) > (m : Int) by omega)]
    by_cases h2 : c.length ≤ 20
    · rw [decide_eq_true h2, decide_eq_false (show ¬ (c.length : Int) > 20 by omega)]
      simp only [cond_false, Bool.and_self, Bool.true_and, J_roadbooklaw03_few_1_eq]
      rw [loop_all (fun i => L_roadbooklaw03_few_2 (c.map intp) (r.map rowp) i) r.length (fun i => (r[i]?).all fun x => decide (x.length ≤ 20)) (some (.bool false)) (some (.bool true)) ?_ ?_, all_get]
      · cases r.all fun x => decide (x.length ≤ 20) <;> rfl
      · intro i hi
        rw [L_roadbooklaw03_few_2_eq]
        simp only [List.length_map, lt_len hi, nat_le, cond_true, Int.toNat_natCast, List.getElem?_map, List.getElem?_eq_getElem hi, Option.map_some, Option.bind_some, c_rowp, Option.all_some]
        rw [wrap64 (by omega) (by omega)]
        by_cases h3 : r[i].length ≤ 20
        · rw [decide_eq_true h3, decide_eq_false (show ¬ (r[i].length : Int) > 20 by omega)]; rfl
        · rw [decide_eq_false h3, decide_eq_true (show (r[i].length : Int) > 20 by omega)]; rfl
      · rw [L_roadbooklaw03_few_2_eq]; simp only [List.length_map, ge_len, cond_false]
    · rw [decide_eq_false h2, decide_eq_true (show (c.length : Int) > 20 by omega)]
      simp
  · rw [decide_eq_false h1, decide_eq_true (show (r.length : Int) > (m : Int) by omega)]
    simp
theorem fewB_of {c : List Int} {r : List (List Val)} {m : Nat} (h : fewB c r m = true) : r.length ≤ m ∧ c.length ≤ 20 ∧ ∀ x ∈ r, x.length ≤ 20 := by
  unfold fewB at h
  simp only [Bool.and_eq_true, decide_eq_true_eq, List.all_eq_true] at h
  exact ⟨h.1.1, h.1.2, h.2⟩
theorem loop_all2 {α : Type} [DecidableEq α] {R : Type} (L : Int → Option R) (a b : List α) (e : a.length = b.length) (r s : Option R) (hs : ∀ i : Nat, ∀ (h : i < a.length) (h' : i < b.length), L (i : Int) = bif decide (a[i] = b[i]) then L ((i : Int) + 1) else r) (he : L (a.length : Int) = s) :
    L 0 = bif decide (a = b) then s else r := by
  rw [loop_all L a.length (fun i => decide (a[i]? = b[i]?)) r s (fun i hi => ?_) he, all_eq a b e]
  have hi' : i < b.length := by omega
  rw [hs i hi hi', List.getElem?_eq_getElem hi, List.getElem?_eq_getElem hi']
  simp only [Option.some.injEq]
theorem w_Ints (a b : List Int) (ha : a.length ≤ 9223372036854775807) : wc W n_roadbookref02_Ints [intsp a, intsp b] = some (.bool (decide (a = b))) := by
  have h := e_roadbookref02_Ints (a.map intp) (b.map intp)
  rw [intsp_fold, intsp_fold] at h
  rw [h, List.length_map, List.length_map]
  by_cases e : a.length = b.length
  · rw [bne_f (by rw [e]), cond_false]
    rw [loop_all2 (fun i => L_roadbookref02_Ints_1 (a.map intp) (b.map intp) i) a b e (some (.bool false)) (some (.bool true)) ?_ ?_]
    · cases decide (a = b) <;> rfl
    · intro i hi hi'
      rw [L_roadbookref02_Ints_1_eq]
      simp only [List.length_map, lt_len hi, nat_le, cond_true, Int.toNat_natCast, List.getElem?_map, List.getElem?_eq_getElem hi, List.getElem?_eq_getElem hi', Option.map_some, Option.bind_some, c_intp]
      rw [wrap64 (by omega) (by omega)]
      by_cases h : a[i] = b[i]
      · rw [bne_f h, decide_eq_true h]; rfl
      · rw [bne_t h, decide_eq_false h]; rfl
    · rw [L_roadbookref02_Ints_1_eq]; simp only [List.length_map, ge_len, cond_false]
  · rw [bne_t (by omega), decide_eq_false (fun h => e (by rw [h]))]; rfl
theorem w_RowR (a b : List Val) (ha : a.length ≤ 9223372036854775807) : wc W n_roadbookref03_Row [rowp a, rowp b] = some (.bool (decide (a = b))) := by
  have h := e_roadbookref03_Row (a.map Val.pv) (b.map Val.pv)
  rw [rowp_fold, rowp_fold] at h
  rw [h, List.length_map, List.length_map]
  by_cases e : a.length = b.length
  · rw [bne_f (by rw [e]), cond_false]
    rw [loop_all2 (fun i => L_roadbookref03_Row_1 (a.map Val.pv) (b.map Val.pv) i) a b e (some (.bool false)) (some (.bool true)) ?_ ?_]
    · cases decide (a = b) <;> rfl
    · intro i hi hi'
      rw [L_roadbookref03_Row_1_eq]
      simp only [List.length_map, lt_len hi, nat_le, cond_true, Int.toNat_natCast, List.getElem?_map, List.getElem?_eq_getElem hi, List.getElem?_eq_getElem hi', Option.map_some, Option.bind_some, Val.c_mk]
      rw [wrap64 (by omega) (by omega)]
      have key : ∀ x y : Val, ((bif (x.K == y.K) then (bif (x.N == y.N) then (some true) else (some false)) else (some false)) : Option Bool) = some (decide (x = y)) := fun x y => by
        cases x; cases y
        simp only [Val.mk.injEq]
        rw [Bool.decide_and]
        rename_i k n k' n'
        show _ = some ((k == k') && (n == n'))
        cases k == k' <;> cases n == n' <;> rfl
      rw [key]
      simp only [Option.bind_some, c_b_mk]
      cases decide (a[i] = b[i]) <;> rfl
    · rw [L_roadbookref03_Row_1_eq]; simp only [List.length_map, ge_len, cond_false]
  · rw [bne_t (by omega), decide_eq_false (fun h => e (by rw [h]))]; rfl
theorem w_Like (c : List Int) (r : List (List Val)) (d : List Int) (s : List (List Val)) (hc : c.length ≤ 9223372036854775807) (hr : r.length ≤ 9223372036854775807) (hl : ∀ x ∈ r, x.length ≤ 9223372036854775807) :
    wc W n_roadbookref03_Like [bagp c r, bagp d s] = some (.bool (decide (c = d) && decide (r = s))) := by
  have h := e_roadbookref03_Like (c.map intp) (r.map rowp) (d.map intp) (s.map rowp)
  rw [intsp_fold, intsp_fold, tabp_fold, tabp_fold, bagp_fold, bagp_fold] at h
  rw [h, w_Ints c d hc, List.length_map, List.length_map]
  simp only [Option.bind_some, c_b_mk]
  cases decide (c = d) with
  | false => rfl
  | true =>
    simp only [Bool.not_true, cond_false, Bool.true_and]
    by_cases e : r.length = s.length
    · rw [bne_f (by rw [e]), cond_false, J_roadbookref03_Like_1_eq]
      rw [loop_all2 (fun i => L_roadbookref03_Like_2 (c.map intp) (r.map rowp) (d.map intp) (s.map rowp) i) r s e (some (.bool false)) (some (.bool true)) ?_ ?_]
      · cases decide (r = s) <;> rfl
      · intro i hi hi'
        rw [L_roadbookref03_Like_2_eq]
        simp only [List.length_map, lt_len hi, nat_le, cond_true, Int.toNat_natCast, List.getElem?_map, List.getElem?_eq_getElem hi, List.getElem?_eq_getElem hi', Option.map_some, Option.bind_some, c_rowp, rowp_fold, w_RowR _ _ (hl _ (List.getElem_mem hi)), c_b_mk]
        rw [wrap64 (by omega) (by omega)]
        cases decide (r[i] = s[i]) <;> rfl
      · rw [L_roadbookref03_Like_2_eq]; simp only [List.length_map, ge_len, cond_false]
    · rw [bne_t (by omega), decide_eq_false (fun h => e (by rw [h]))]; rfl
theorem w_Place (l : List Int) (n : Int) (hl : l.length ≤ 9223372036854775807) : wc W n_roadbookref03_Place [intsp l, .int .i64 n] = some (.int .i64 (idxI l (fun x => x == n))) := by
  have h := e_roadbookref03_Place (l.map intp) n
  rw [intsp_fold] at h
  rw [h]
  refine loop_idx (fun i => L_roadbookref03_Place_1 (l.map intp) n i) l (fun x => x == n) (fun n => some (.int .i64 n)) (fun i hi => ?_) ?_
  · rw [L_roadbookref03_Place_1_eq]
    simp only [List.length_map, lt_len hi, nat_le, cond_true, Int.toNat_natCast, List.getElem?_map, List.getElem?_eq_getElem hi, Option.map_some, Option.bind_some, c_intp]
    rw [wrap64 (by omega) (by omega)]
  · rw [L_roadbookref03_Place_1_eq]; simp
theorem some_loop (c0 : List Int) (g : Nat) (fs cs : List PV) (r : List (List Val)) (f : List Val → Bool) (hr : r.length ≤ 4294967295) (hl : ∀ x ∈ r, x.length ≤ 4294967296) (hf : ∀ x ∈ r, wc W g (fs ++ [rowp x] ++ cs) = some (.bool (f x))) :
    ∀ (k i : Nat) (a b : List PV) (acc : List (List Val)), i + k = r.length → acc.length ≤ i →
    L_bag_some_1 (.fn g fs cs) (r.map rowp) (r.length : Int) (i : Int) a b (c0.map intp) (acc.map rowp) = some (bagp c0 (acc ++ (r.drop i).filter f))
  | 0, i, a, b, acc, hi, hacc => by
    rw [L_bag_some_1_eq, show i = r.length by omega]
    simp [ge_len]
  | k + 1, i, a, b, acc, hi, hacc => by
    have hi' : i < r.length := by omega
    rw [L_bag_some_1_eq, List.drop_eq_getElem_cons hi', List.filter_cons]
    simp only [lt_len hi', nat_le, cond_true, Int.toNat_natCast, List.getElem?_map, List.getElem?_eq_getElem hi', Option.map_some, Option.bind_some, c_rowp, asFn_mk, rowp_fold, hf _ (List.getElem_mem hi'), c_b_mk]
    have hcl := x_slices_Clone_api_Val_api_Val (r[i].map Val.pv) (by rw [List.length_map]; exact hl _ (List.getElem_mem hi'))
    rw [rowp_fold] at hcl
    rw [wrap_succ (by omega)]
    cases hfx : f r[i] with
    | false =>
      simp only [cond_false, Bool.false_eq_true, if_false]
      exact some_loop c0 g fs cs r f hr hl hf k (i + 1) a b acc (by omega) (by omega)
    | true =>
      simp only [cond_true, hcl, Option.bind_some, c_rowp, rowp_fold, List.length_map, Bool.true_and, decide_eq_true (show acc.length + 1 ≤ 4294967296 by omega), if_true]
      have := some_loop c0 g fs cs r f hr hl hf k (i + 1) a b (acc ++ [r[i]]) (by omega) (by rw [List.length_append, List.length_singleton]; omega)
      rw [List.map_append, List.append_assoc] at this
      exact this
theorem w_some (c : List Int) (r : List (List Val)) (g : Nat) (fs cs : List PV) (f : List Val → Bool) (hc : c.length ≤ 4294967296) (hr : r.length ≤ 4294967295) (hl : ∀ x ∈ r, x.length ≤ 4294967296) (hf : ∀ x ∈ r, wc W g (fs ++ [rowp x] ++ cs) = some (.bool (f x))) :
    wc W n_bag_some [bagp c r, .fn g fs cs] = some (bagp c (r.filter f)) := by
  have h := e_bag_some (c.map intp) (r.map rowp) (.fn g fs cs)
  rw [intsp_fold, tabp_fold, bagp_fold] at h
  have hcl := x_slices_Clone_int_int (c.map intp) (by rw [List.length_map]; exact hc)
  rw [intsp_fold] at hcl
  rw [h, hcl, List.length_map]
  simp only [Option.bind_some, c_intsp]
  have := some_loop c g fs cs r f hr hl hf r.length 0 [] [] [] (by omega) (by simp)
  simpa using this
theorem w_anyEx (l : List Ex) (g : Nat) (fs cs : List PV) (f : Ex → Bool) (hl : l.length ≤ 9223372036854775807) (hf : ∀ x ∈ l, wc W g (fs ++ [x.pv] ++ cs) = some (.bool (f x))) :
    wc W n_slices_ContainsFunc_api_Expr_api_Expr [exsp l, .fn g fs cs] = some (.bool (l.any f)) := by
  have h := e_slices_ContainsFunc_api_Expr_api_Expr (l.map Ex.pv) (.fn g fs cs)
  have h2 := e_slices_IndexFunc_api_Expr_api_Expr (l.map Ex.pv) (.fn g fs cs)
  rw [exsp_fold] at h h2
  have h3 : wc W n_slices_IndexFunc_api_Expr_api_Expr [exsp l, .fn g fs cs] = some (.int .i64 (idxI l f)) := by
    rw [h2, List.length_map]
    refine loop_idx (fun i => L_slices_IndexFunc_api_Expr_api_Expr_1 (l.map Ex.pv) (.fn g fs cs) l.length i) l f (fun n => some (.int .i64 n)) (fun i hi => ?_) ?_
    · rw [L_slices_IndexFunc_api_Expr_api_Expr_1_eq]
      simp only [lt_len hi, nat_le, cond_true, Int.toNat_natCast, List.getElem?_map, List.getElem?_eq_getElem hi, Option.map_some, Option.bind_some, Ex.c_mk, asFn_mk, Ex.fold]
      rw [hf _ (List.getElem_mem hi), wrap64 (by omega) (by omega)]
      simp only [Option.bind_some, c_b_mk]
    · rw [L_slices_IndexFunc_api_Expr_api_Expr_1_eq]; simp
  rw [h, h3]
  simp [← idxI_any]
def keepL (l : List Ex) (c : List Int) (row : List Val) : Bool := l.all fun e => keepE e c row
theorem any_not0 {α : Type} (l : List α) (f : α → Bool) : (!l.any fun x => !f x) = l.all f := by
  induction l with
  | nil => rfl
  | cons a l ih => simp only [List.any_cons, List.all_cons, Bool.not_or, Bool.not_not, ih]
def ROk (r : List Val) : Prop := ∀ v ∈ r, VOk v
theorem w_Keep (c : List Int) (r : List (List Val)) (l : List Ex) (hc : c.length ≤ 4294967296) (hr : r.length ≤ 4294967295) (hl : ∀ x ∈ r, x.length ≤ 4294967296) (hv : ∀ x ∈ r, ROk x) (hll : l.length ≤ 9223372036854775807) (he : ∀ e ∈ l, e.ok ∧ e.vals) :
    wc W n_bag_Keep [bagp c r, exsp l] = some (bagp c (r.filter (keepL l c))) := by
  have h := e_bag_Keep (c.map intp) (r.map rowp) (l.map Ex.pv)
  rw [intsp_fold, tabp_fold, bagp_fold, exsp_fold] at h
  rw [h, w_some c r n_bag_Keep_1 [] [.imm 0 (exsp l) 0, .imm 3 (bagp c r) 0] (keepL l c) hc hr hl ?_]
  · simp only [Option.bind_some, c_bagp]
    rfl
  · intro x hx
    have h1 := e_bag_Keep_1 (x.map Val.pv) (l.map Ex.pv) (c.map intp) (r.map rowp)
    rw [intsp_fold, tabp_fold, bagp_fold, exsp_fold, rowp_fold] at h1
    show wc W n_bag_Keep_1 [rowp x, _, _] = _
    rw [h1, w_anyEx l n_bag_Keep_1_1 [] [.imm 3 (bagp c r) 0, .imm 0 (rowp x) 0] (fun e => !keepE e c x) hll ?_]
    · simp only [Option.bind_some, c_b_mk, any_not0]
      rfl
    · intro e hel
      have h2 := e_bag_Keep_1_1 e.op e.col e.v.K e.v.N (e.l.map Ex.pv) (c.map intp) (r.map rowp) (x.map Val.pv)
      rw [Ex.fold, intsp_fold, tabp_fold, bagp_fold, rowp_fold] at h2
      show wc W n_bag_Keep_1_1 [e.pv, _, _] = _
      rw [h2, w_Keeps e c x (he e hel).1 (he e hel).2 (by omega) (hv x hx)]
      rfl
def inC (c : List Int) (x : Int) : Bool := decide (x ∈ c)
theorem idxI_lt {c : List Int} {x : Int} : decide (idxI c (fun y => x == y) < 0) = !inC c x := by
  have h := idxI_any c (fun y => x == y)
  have h2 : c.any (fun y => x == y) = inC c x := by
    unfold inC
    rw [Bool.eq_iff_iff, List.any_eq_true, decide_eq_true_eq]
    constructor
    · rintro ⟨y, hy, e⟩; rw [beq_iff_eq] at e; subst e; exact hy
    · intro h; exact ⟨x, h, by simp⟩
  rw [h2] at h
  rw [← h]
  by_cases hh : idxI c (fun y => x == y) < 0
  · rw [decide_eq_true hh, decide_eq_false (by omega)]; rfl
  · rw [decide_eq_false hh, decide_eq_true (by omega)]; rfl
theorem idxI_len (c : List Int) (x : Int) : idxI c (fun y => x == y) < (c.length : Int) := by
  unfold idxI
  cases h : c.findIdx? (fun y => x == y) with
  | none => simp only; omega
  | some i =>
    obtain ⟨hi, _⟩ := List.findIdx?_eq_some_iff_getElem.1 h
    simp only; omega
theorem lookR_in {c : List Int} {row : List Val} {x : Int} (h : inC c x = true) (hl : row.length = c.length) : (row[(idxI c (fun y => x == y)).toNat]? = some (lookR c row x)) ∧ 0 ≤ idxI c (fun y => x == y) := by
  have h1 : decide (idxI c (fun y => x == y) < 0) = false := by rw [idxI_lt, h]; rfl
  have h2 := of_decide_eq_false h1
  have h3 := idxI_len c x
  refine ⟨?_, by omega⟩
  unfold lookR
  rw [h1, decide_eq_false (show ¬ idxI c (fun y => x == y) ≥ (row.length : Int) by omega)]
  have hlt : (idxI c (fun y => x == y)).toNat < row.length := by omega
  simp only [cond_false, List.getElem?_eq_getElem hlt, List.getD_eq_getElem?_getD, Option.getD_some]
def atC (c cols : List Int) : List Int := cols.map fun x => idxI c (fun y => x == y)
def pickR (c cols : List Int) (row : List Val) : List Val := cols.map (lookR c row)
theorem pick4 (c cols : List Int) (row : List Val) (hl : row.length = c.length) (hin : ∀ x ∈ cols, inC c x = true) (hn : cols.length ≤ 100) (A : List PV) (n i : Int) (X Y Z : List PV) (out : List (List Val)) (ho : out.length ≤ 4294967295) : ∀ (k j : Nat) (acc : List Val), j + k = cols.length → acc.length = j →
    L_bag_Pick_4 (row.map Val.pv) A n i (cols.length : Int) (j : Int) ((atC c cols).map intp) X Y Z (out.map rowp) (acc.map Val.pv) =
      L_bag_Pick_3 A n (IntKind.wrap .i64 (i + 1)) ((atC c cols).map intp) X Y Z ((out ++ [acc ++ (cols.drop j).map (lookR c row)]).map rowp)
  | 0, j, acc, h, ha => by
    rw [L_bag_Pick_4_eq, show j = cols.length by omega]
    simp only [ge_len, cond_false, List.length_map, Bool.true_and, decide_eq_true (show out.length + 1 ≤ 4294967296 by omega), cond_true, List.drop_length, List.map_nil, List.append_nil, List.map_append, List.map_cons]
    rfl
  | k + 1, j, acc, h, ha => by
    have hj : j < cols.length := by omega
    have hj2 : j < (atC c cols).length := by unfold atC; rw [List.length_map]; exact hj
    obtain ⟨h1, h2⟩ := lookR_in (hin _ (List.getElem_mem hj)) hl
    have he : (atC c cols)[j] = idxI c (fun y => cols[j] == y) := by simp only [atC, List.getElem_map]
    have hlen : ((atC c cols).map intp).length = cols.length := by unfold atC; rw [List.length_map, List.length_map]
    rw [L_bag_Pick_4_eq, hlen]
    simp only [lt_len hj, nat_le, Bool.and_self, cond_true, Int.toNat_natCast, Nat.zero_add, List.getElem?_map, List.getElem?_eq_getElem hj2, Option.map_some, Option.bind_some, c_intp, he, decide_eq_true h2, h1, Val.c_mk, Val.fold, List.length_map, Bool.true_and, decide_eq_true (show acc.length + 1 ≤ 4294967296 by omega)]
    rw [wrap_succ (by omega)]
    have := pick4 c cols row hl hin hn A n i X Y Z out ho k (j + 1) (acc ++ [lookR c row cols[j]]) (by omega) (by rw [List.length_append, List.length_singleton]; omega)
    rw [List.map_append] at this
    rw [List.append_assoc, List.singleton_append] at this
    rw [List.drop_eq_getElem_cons hj, List.map_cons]
    exact this
theorem pick3 (c cols : List Int) (r : List (List Val)) (hl : ∀ x ∈ r, x.length = c.length) (hin : ∀ x ∈ cols, inC c x = true) (hn : cols.length ≤ 100) (hr : r.length ≤ 4294967295) (X Y : List PV) : ∀ (k i : Nat) (acc : List (List Val)), i + k = r.length → acc.length = i →
    L_bag_Pick_3 (r.map rowp) (r.length : Int) (i : Int) ((atC c cols).map intp) X Y (cols.map intp) (acc.map rowp) = some (.tup [bagp cols (acc ++ (r.drop i).map (pickR c cols)), .bool true])
  | 0, i, acc, h, ha => by
    rw [L_bag_Pick_3_eq, show i = r.length by omega]
    simp [ge_len]
  | k + 1, i, acc, h, ha => by
    have hi : i < r.length := by omega
    rw [L_bag_Pick_3_eq]
    have hlen : ((atC c cols).map intp).length = cols.length := by unfold atC; rw [List.length_map, List.length_map]
    simp only [lt_len hi, nat_le, cond_true, Int.toNat_natCast, List.getElem?_map, List.getElem?_eq_getElem hi, Option.map_some, Option.bind_some, c_rowp, hlen]
    have h4 := pick4 c cols r[i] (hl _ (List.getElem_mem hi)) hin hn (r.map rowp) (r.length : Int) (i : Int) X Y (cols.map intp) acc (by omega) cols.length 0 [] (by omega) rfl
    refine h4.trans ?_
    rw [wrap_succ (by omega), List.drop_zero, List.nil_append]
    have := pick3 c cols r hl hin hn hr X Y k (i + 1) (acc ++ [cols.map (lookR c r[i])]) (by omega) (by rw [List.length_append, List.length_singleton]; omega)
    rw [this, List.drop_eq_getElem_cons hi, List.map_cons, List.append_assoc]
    rfl
theorem pick2 (c cols : List Int) (r : List (List Val)) (hl : ∀ x ∈ r, x.length = c.length) (hc : c.length ≤ 100) (hn : cols.length ≤ 100) (hr : r.length ≤ 4294967295) : ∀ (k i : Nat), i + k = cols.length → (∀ x ∈ cols.take i, inC c x = true) →
    L_bag_Pick_2 (cols.map intp) (c.map intp) (r.map rowp) (cols.map intp) (cols.length : Int) (i : Int) ((atC c (cols.take i)).map intp) =
      bif (cols.drop i).all (inC c) then some (.tup [bagp cols (r.map (pickR c cols)), .bool true]) else some (.tup [bagp [] [], .bool false])
  | 0, i, h, hin => by
    rw [L_bag_Pick_2_eq, show i = cols.length by omega]
    have hcl := x_slices_Clone_int_int (cols.map intp) (by rw [List.length_map]; omega)
    rw [intsp_fold] at hcl
    rw [show i = cols.length by omega, List.take_length] at hin
    simp only [ge_len, cond_false, List.drop_length, List.all_nil, cond_true, List.take_length, intsp_fold, hcl, Option.bind_some, c_intsp, List.length_map]
    have := pick3 c cols r hl hin hn hr [] [] r.length 0 [] (by omega) rfl
    simpa using this
  | k + 1, i, h, hin => by
    have hi : i < cols.length := by omega
    rw [L_bag_Pick_2_eq, List.drop_eq_getElem_cons hi, List.all_cons]
    simp only [lt_len hi, nat_le, cond_true, Int.toNat_natCast, List.getElem?_map, List.getElem?_eq_getElem hi, Option.map_some, Option.bind_some, c_intp, intsp_fold, w_Index c cols[i] (by omega), c_i64_mk, idxI_lt]
    cases hx : inC c cols[i] with
    | false => rfl
    | true =>
      have ht : (cols.take i).length = i := by rw [List.length_take]; omega
      have hlen : ((atC c (cols.take i)).map intp).length = i := by unfold atC; rw [List.length_map, List.length_map, ht]
      simp only [Bool.not_true, cond_false, Bool.true_and, hlen, decide_eq_true (show i + 1 ≤ 4294967296 by omega), cond_true]
      rw [wrap_succ (by omega)]
      have := pick2 c cols r hl hc hn hr k (i + 1) (by omega) (fun x hx' => by
        rw [List.take_succ_eq_append_getElem hi] at hx'
        rcases List.mem_append.1 hx' with h | h
        · exact hin x h
        · rw [List.mem_singleton] at h; rw [h]; exact hx)
      rw [List.take_succ_eq_append_getElem hi] at this
      unfold atC at this ⊢
      rw [List.map_append, List.map_append] at this
      exact this
def pickB (c : List Int) (r : List (List Val)) (cols : List Int) : Option (List Int × List (List Val)) := bif mayB c r && mayB cols [] && cols.all (inC c) then some (cols, r.map (pickR c cols)) else none
theorem w_Pick (c : List Int) (r : List (List Val)) (cols : List Int) (hc : c.length ≤ 9223372036854775807) (hr : r.length ≤ 9223372036854775807) (hl : ∀ x ∈ r, x.length ≤ 9223372036854775807) (hn : cols.length ≤ 9223372036854775807) :
    wc W n_bag_Pick [bagp c r, intsp cols] = some (bagR (pickB c r cols)) := by
  have h := e_bag_Pick (c.map intp) (r.map rowp) (cols.map intp)
  rw [intsp_fold, tabp_fold, bagp_fold, intsp_fold] at h
  have e0 : PV.agg [intsp cols, PV.slice 0 []] = bagp cols [] := rfl
  rw [h]
  simp only [e0, w_bag_May c r hc hr hl, w_bag_May cols [] hn (by simp) (by simp), Option.bind_some, c_b_mk]
  unfold pickB
  cases h1 : mayB c r with
  | false => rfl
  | true =>
    cases h2 : mayB cols [] with
    | false => rfl
    | true =>
      obtain ⟨a1, a2, a3⟩ := mayB_row h1
      obtain ⟨b1, _, _⟩ := mayB_row h2
      simp only [Bool.not_true, cond_false, Bool.and_self, Bool.true_and, J_bag_Pick_1_eq, List.length_map]
      have := pick2 c cols r (fun x hx => (a3 x hx).1) (by omega) (by omega) (by omega) cols.length 0 (by omega) (by simp)
      rw [List.take_zero, List.drop_zero] at this
      refine this.trans ?_
      cases cols.all (inC c) <;> rfl
end Go.Cf
