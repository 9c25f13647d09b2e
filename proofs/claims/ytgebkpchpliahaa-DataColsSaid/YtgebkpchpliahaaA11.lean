/- Part 12 of the proof: an abstract machine that runs the program's code over plain values, its soundness, and what the functions tell of plain values. Conditions: those in each theorem. -/
import Derived.Test.YtgebkpchpliahaaA10
namespace Go.Cf
open Go Go.Ab
set_option linter.unusedVariables false
set_option linter.unusedSimpArgs false
def upd (f : Nat → Bool) (v : Nat) : Nat → Bool := fun k => bif k == 0 + v * 1 then true else f k
def goC : (Nat → Bool) → List Int → Option (Nat → Bool)
  | f, [] => some f
  | f, c :: r => bif (decide (0 ≤ c) && decide (c ≤ 15)) && !f c.toNat then goC (upd f c.toNat) r else none
noncomputable def M1 (l1 l2 l3 : List PV) (n i : Int) (f : Nat → Bool) : Option PV := L_bag_May_1 l1 l2 l3 n i (f 0) (f 1) (f 2) (f 3) (f 4) (f 5) (f 6) (f 7) (f 8) (f 9) (f 10) (f 11) (f 12) (f 13) (f 14) (f 15)
noncomputable def M2 (l1 l2 l3 : List PV) (n i : Int) (f : Nat → Bool) : Option PV := L_bag_May_2 l1 l2 l3 n i (f 0) (f 1) (f 2) (f 3) (f 4) (f 5) (f 6) (f 7) (f 8) (f 9) (f 10) (f 11) (f 12) (f 13) (f 14) (f 15)
theorem load16 (f : Nat → Bool) : ∀ v : Nat, v < 16 → PV.load 17 (.agg [.bool (f 0), .bool (f 1), .bool (f 2), .bool (f 3), .bool (f 4), .bool (f 5), .bool (f 6), .bool (f 7), .bool (f 8), .bool (f 9), .bool (f 10), .bool (f 11), .bool (f 12), .bool (f 13), .bool (f 14), .bool (f 15)]) (0 + v * 1) 0 = some (.bool (f v))
  | 0, _ => rfl | 1, _ => rfl | 2, _ => rfl | 3, _ => rfl | 4, _ => rfl | 5, _ => rfl | 6, _ => rfl | 7, _ => rfl
  | 8, _ => rfl | 9, _ => rfl | 10, _ => rfl | 11, _ => rfl | 12, _ => rfl | 13, _ => rfl | 14, _ => rfl | 15, _ => rfl
  | n + 16, h => by omega
theorem may1_loop (cols : List Int) (rows : List PV) (hl : cols.length ≤ 9223372036854775807) : ∀ (k i : Nat) (f : Nat → Bool), i + k = cols.length →
    M1 (cols.map intp) rows (cols.map intp) (cols.length : Int) (i : Int) f = match goC f (cols.drop i) with | some f' => M2 (cols.map intp) rows rows ((rows.length : Nat) : Int) 0 f' | none => some (.bool false)
  | 0, i, f, h => by
    unfold M1
    rw [L_bag_May_1_eq, show i = cols.length by omega]
    simp only [ge_len, cond_false, List.drop_length, goC]
    rfl
  | k + 1, i, f, h => by
    have hi : i < cols.length := by omega
    unfold M1
    rw [L_bag_May_1_eq, List.drop_eq_getElem_cons hi, goC]
    simp only [lt_len hi, nat_le, cond_true, Int.toNat_natCast, List.getElem?_map, List.getElem?_eq_getElem hi, Option.map_some, Option.bind_some, c_intp]
    by_cases h0 : cols[i] < 0
    · rw [decide_eq_true h0, decide_eq_false (show ¬ 0 ≤ cols[i] by omega)]; rfl
    rw [decide_eq_false h0, decide_eq_true (show 0 ≤ cols[i] by omega)]
    by_cases h15 : cols[i] > 15
    · rw [decide_eq_true h15, decide_eq_false (show ¬ cols[i] ≤ 15 by omega)]; rfl
    rw [decide_eq_false h15, decide_eq_true (show cols[i] ≤ 15 by omega), decide_eq_true (show cols[i] < 16 by omega)]
    simp only [cond_false, Bool.and_self, cond_true, Bool.true_and, load16 f cols[i].toNat (by omega), Option.bind_some, c_b_mk]
    cases hf : f cols[i].toNat with
    | true => rfl
    | false =>
      simp only [cond_false, Bool.not_false, cond_true, decide_eq_true (show 0 + cols[i].toNat * 1 + 1 ≤ 16 by omega), Bool.and_true]
      rw [wrap64 (by omega) (by omega)]
      exact may1_loop cols rows hl k (i + 1) (upd f cols[i].toNat) (by omega)
theorem goC_iff : ∀ (cols : List Int) (f : Nat → Bool), (goC f cols).isSome = true ↔ (∀ c ∈ cols, (0 ≤ c ∧ c ≤ 15) ∧ f c.toNat = false) ∧ cols.Nodup
  | [], f => by simp [goC]
  | c :: r, f => by
    unfold goC
    cases hb : (decide (0 ≤ c) && decide (c ≤ 15)) && !f c.toNat with
    | false =>
      simp only [cond_false, Option.isSome_none, Bool.false_eq_true, false_iff, not_and]
      intro h
      have := h c (by simp)
      rw [decide_eq_true this.1.1, decide_eq_true this.1.2, this.2] at hb
      cases hb
    | true =>
      simp only [cond_true]
      rw [goC_iff r]
      simp only [Bool.and_eq_true, decide_eq_true_eq, Bool.not_eq_true'] at hb
      obtain ⟨⟨c0, c15⟩, hf⟩ := hb
      simp only [List.nodup_cons, List.mem_cons, forall_eq_or_imp, upd, Nat.zero_add, Nat.mul_one]
      constructor
      · rintro ⟨h1, h2⟩
        refine ⟨⟨⟨⟨c0, c15⟩, hf⟩, fun x hx => ⟨(h1 x hx).1, ?_⟩⟩, ?_, h2⟩
        · have := (h1 x hx).2
          cases e : (x.toNat == c.toNat) with
          | true => rw [e] at this; cases this
          | false => rw [e] at this; exact this
        · intro hc
          have := (h1 c hc).2
          rw [beq_t rfl] at this; cases this
      · rintro ⟨⟨_, h1⟩, h2, h3⟩
        refine ⟨fun x hx => ⟨(h1 x hx).1, ?_⟩, h3⟩
        have hne : x ≠ c := fun e => h2 (e ▸ hx)
        have := (h1 x hx).1
        rw [beq_f (show x.toNat ≠ c.toNat by omega)]
        exact (h1 x hx).2
def colsB (cols : List Int) : Bool := (goC (fun _ => false) cols).isSome
theorem colsB_iff (cols : List Int) : colsB cols = true ↔ (∀ c ∈ cols, 0 ≤ c ∧ c ≤ 15) ∧ cols.Nodup := by
  unfold colsB
  rw [goC_iff]
  simp
def rowB (n : Nat) (r : List Val) : Bool := decide (r.length = n) && r.all mayV
def mayB (c : List Int) (r : List (List Val)) : Bool := colsB c && r.all (rowB c.length) && decide (r.length ≤ 5000)
theorem w_mayB1 (v : Val) : wc W n_bag_May_1 [v.pv] = some (.bool (!mayV v)) := by
  have h := e_bag_May_1 v.K v.N
  rw [Val.fold] at h
  rw [h, w_val_May]; rfl
theorem w_bag_May (c : List Int) (r : List (List Val)) (hc : c.length ≤ 9223372036854775807) (hr : r.length ≤ 9223372036854775807) (hl : ∀ x ∈ r, x.length ≤ 9223372036854775807) : wc W n_bag_May [bagp c r] = some (.bool (mayB c r)) := by
  have h := e_bag_May (c.map intp) (r.map rowp)
  rw [intsp_fold, tabp_fold, bagp_fold] at h
  have h1 := may1_loop c (r.map rowp) hc c.length 0 (fun _ => false) (by omega)
  rw [List.drop_zero] at h1
  rw [h, List.length_map]
  refine h1.trans ?_
  unfold mayB colsB
  cases hg : goC (fun _ => false) c with
  | none => rfl
  | some f =>
    simp only [Option.isSome_some, Bool.true_and, List.length_map]
    rw [loop_all (fun i => M2 (c.map intp) (r.map rowp) (r.map rowp) (r.length : Int) i f) r.length (fun i => (r[i]?).all (rowB c.length)) (some (.bool false)) (some (.bool (decide (r.length ≤ 5000)))) ?_ ?_, all_get]
    · cases r.all (rowB c.length) <;> rfl
    · intro i hi
      unfold M2
      rw [L_bag_May_2_eq]
      simp only [List.length_map, lt_len hi, nat_le, cond_true, Int.toNat_natCast, List.getElem?_map, List.getElem?_eq_getElem hi, Option.map_some, Option.bind_some, c_rowp, rowp_fold, Option.all_some, w_anyVal r[i] n_bag_May_1 [] [] (fun v => !mayV v) (hl _ (List.getElem_mem hi)) (fun x _ => w_mayB1 x), c_b_mk]
      rw [wrap64 (by omega) (by omega)]
      unfold rowB
      by_cases e : r[i].length = c.length
      · rw [bne_f (by rw [e]), decide_eq_true e, ← any_not]
        cases r[i].any fun v => !mayV v <;> rfl
      · rw [bne_t (by omega), decide_eq_false e]; rfl
    · unfold M2
      rw [L_bag_May_2_eq]
      simp only [List.length_map, ge_len, cond_false]
      congr 2
      have : ((r.length : Int) ≤ 5000) = (r.length ≤ 5000) := by apply propext; omega
      simp only [this]
theorem cat_len {α : Type} (ls : List (List α)) (i : Nat) (hi : i < ls.length) : (ls.drop i).flatten.length = ls[i].length + (ls.drop (i + 1)).flatten.length := by
  rw [List.drop_eq_getElem_cons hi, List.flatten_cons, List.length_append]
theorem grow_int (n : Nat) (h : n ≤ 4294967296) : W n_slices_Grow_int_int true [.nil 0, .pv (.int .i64 (n : Int))] [] = some (.view 0 0 none, [.row false 0 0 []]) := by
  rw [o_slices_Grow_int_int_r0_1, decide_eq_false (show ¬ (n : Int) < 0 by omega)]
  simp only [cond_false, J_slices_Grow_int_int_r0_1_eq]
  rw [wrap64 (by omega) (by omega)]
  by_cases h0 : (n : Int) - 0 > 0
  · rw [decide_eq_true h0, decide_eq_true (show (n : Int) - 0 ≤ 4294967296 by omega)]
    have : decide ((0 : Int) < (n : Int) - 0) = true := decide_eq_true h0
    simp
  · rw [decide_eq_false h0]; rfl
theorem catI1 (ls : List (List Int)) (hn : ls.length ≤ 4294967296) (hl : ls.flatten.length ≤ 4294967296) : ∀ (k i s : Nat), i + k = ls.length → s + (ls.drop i).flatten.length = ls.flatten.length →
    L_slices_Concat_int_int_1 (ls.map intsp) (s : Int) (ls.map intsp) (ls.length : Int) (i : Int) = L_slices_Concat_int_int_2 (ls.map intsp) (ls.length : Int) 0 []
  | 0, i, s, h, hs => by
    rw [L_slices_Concat_int_int_1_eq, show i = ls.length by omega]
    simp only [ge_len, cond_false, grow_int s (by omega), Option.bind_some, List.length_map]
    rfl
  | k + 1, i, s, h, hs => by
    have hi : i < ls.length := by omega
    have hc := cat_len ls i hi
    rw [L_slices_Concat_int_int_1_eq]
    simp only [lt_len hi, nat_le, cond_true, Int.toNat_natCast, List.getElem?_map, List.getElem?_eq_getElem hi, Option.map_some, Option.bind_some, c_intsp, List.length_map]
    rw [show IntKind.wrap .i64 ((s : Int) + (ls[i].length : Int)) = ((s + ls[i].length : Nat) : Int) by rw [wrap64 (by omega) (by omega)]; omega, decide_eq_false (by omega), wrap_succ (by omega)]
    exact catI1 ls hn hl k (i + 1) (s + ls[i].length) (by omega) (by omega)
theorem catI2 (ls : List (List Int)) (hn : ls.length ≤ 4294967296) : ∀ (k i : Nat) (acc : List Int), i + k = ls.length → acc.length + (ls.drop i).flatten.length ≤ 4294967296 →
    L_slices_Concat_int_int_2 (ls.map intsp) (ls.length : Int) (i : Int) (acc.map intp) = some (intsp (acc ++ (ls.drop i).flatten))
  | 0, i, acc, h, hl => by
    rw [L_slices_Concat_int_int_2_eq, show i = ls.length by omega]
    simp
  | k + 1, i, acc, h, hl => by
    have hi : i < ls.length := by omega
    have hc := cat_len ls i hi
    rw [L_slices_Concat_int_int_2_eq]
    simp only [lt_len hi, nat_le, cond_true, Int.toNat_natCast, List.getElem?_map, List.getElem?_eq_getElem hi, Option.map_some, Option.bind_some, c_intsp, List.length_map, Bool.true_and, decide_eq_true (show acc.length + ls[i].length ≤ 4294967296 by omega)]
    rw [wrap_succ (by omega)]
    have := catI2 ls hn k (i + 1) (acc ++ ls[i]) (by omega) (by simp only [List.length_append]; omega)
    rw [List.map_append] at this
    rw [this, List.drop_eq_getElem_cons hi, List.flatten_cons, List.append_assoc]
theorem w_ConcatI (ls : List (List Int)) (hn : ls.length ≤ 4294967296) (hl : ls.flatten.length ≤ 4294967296) : wc W n_slices_Concat_int_int [.slice 0 (ls.map intsp)] = some (intsp ls.flatten) := by
  rw [e_slices_Concat_int_int, List.length_map]
  refine (catI1 ls hn hl ls.length 0 0 (by omega) (by simp)).trans ?_
  have := catI2 ls hn ls.length 0 [] (by omega) (by simpa using hl)
  simpa using this
theorem grow_val (n : Nat) (h : n ≤ 4294967296) : W n_slices_Grow_api_Val_api_Val true [.nil 3, .pv (.int .i64 (n : Int))] [] = some (.view 0 0 none, [.row false 0 3 []]) := by
  rw [o_slices_Grow_api_Val_api_Val_r0_1, decide_eq_false (show ¬ (n : Int) < 0 by omega)]
  simp only [cond_false, J_slices_Grow_api_Val_api_Val_r0_1_eq]
  rw [wrap64 (by omega) (by omega)]
  by_cases h0 : (n : Int) - 0 > 0
  · rw [decide_eq_true h0, decide_eq_true (show (n : Int) - 0 ≤ 4294967296 by omega)]
    have : decide ((0 : Int) < (n : Int) - 0) = true := decide_eq_true h0
    simp
  · rw [decide_eq_false h0]; rfl
theorem catV1 (ls : List (List Val)) (hn : ls.length ≤ 4294967296) (hl : ls.flatten.length ≤ 4294967296) : ∀ (k i s : Nat), i + k = ls.length → s + (ls.drop i).flatten.length = ls.flatten.length →
    L_slices_Concat_api_Val_api_Val_1 (ls.map rowp) (s : Int) (ls.map rowp) (ls.length : Int) (i : Int) = L_slices_Concat_api_Val_api_Val_2 (ls.map rowp) (ls.length : Int) 0 []
  | 0, i, s, h, hs => by
    rw [L_slices_Concat_api_Val_api_Val_1_eq, show i = ls.length by omega]
    simp only [ge_len, cond_false, grow_val s (by omega), Option.bind_some, List.length_map]
    rfl
  | k + 1, i, s, h, hs => by
    have hi : i < ls.length := by omega
    have hc := cat_len ls i hi
    rw [L_slices_Concat_api_Val_api_Val_1_eq]
    simp only [lt_len hi, nat_le, cond_true, Int.toNat_natCast, List.getElem?_map, List.getElem?_eq_getElem hi, Option.map_some, Option.bind_some, c_rowp, List.length_map]
    rw [show IntKind.wrap .i64 ((s : Int) + (ls[i].length : Int)) = ((s + ls[i].length : Nat) : Int) by rw [wrap64 (by omega) (by omega)]; omega, decide_eq_false (by omega), wrap_succ (by omega)]
    exact catV1 ls hn hl k (i + 1) (s + ls[i].length) (by omega) (by omega)
theorem catV2 (ls : List (List Val)) (hn : ls.length ≤ 4294967296) : ∀ (k i : Nat) (acc : List Val), i + k = ls.length → acc.length + (ls.drop i).flatten.length ≤ 4294967296 →
    L_slices_Concat_api_Val_api_Val_2 (ls.map rowp) (ls.length : Int) (i : Int) (acc.map Val.pv) = some (rowp (acc ++ (ls.drop i).flatten))
  | 0, i, acc, h, hl => by
    rw [L_slices_Concat_api_Val_api_Val_2_eq, show i = ls.length by omega]
    simp
  | k + 1, i, acc, h, hl => by
    have hi : i < ls.length := by omega
    have hc := cat_len ls i hi
    rw [L_slices_Concat_api_Val_api_Val_2_eq]
    simp only [lt_len hi, nat_le, cond_true, Int.toNat_natCast, List.getElem?_map, List.getElem?_eq_getElem hi, Option.map_some, Option.bind_some, c_rowp, List.length_map, Bool.true_and, decide_eq_true (show acc.length + ls[i].length ≤ 4294967296 by omega)]
    rw [wrap_succ (by omega)]
    have := catV2 ls hn k (i + 1) (acc ++ ls[i]) (by omega) (by simp only [List.length_append]; omega)
    rw [List.map_append] at this
    rw [this, List.drop_eq_getElem_cons hi, List.flatten_cons, List.append_assoc]
theorem w_ConcatV (ls : List (List Val)) (hn : ls.length ≤ 4294967296) (hl : ls.flatten.length ≤ 4294967296) : wc W n_slices_Concat_api_Val_api_Val [.slice 0 (ls.map rowp)] = some (rowp ls.flatten) := by
  rw [e_slices_Concat_api_Val_api_Val, List.length_map]
  refine (catV1 ls hn hl ls.length 0 0 (by omega) (by simp)).trans ?_
  have := catV2 ls hn ls.length 0 [] (by omega) (by simpa using hl)
  simpa using this
def prodR (r s : List (List Val)) : List (List Val) := r.flatMap fun x => s.map fun y => x ++ y
theorem cross3 (C D E F : List PV) (x : List Val) (A : List PV) (n i : Int) (s : List (List Val)) (hx : x.length ≤ 100) (hs : ∀ y ∈ s, y.length ≤ 100) (hsn : s.length ≤ 5000) (X Y : List PV) : ∀ (k j : Nat) (acc : List (List Val)), j + k = s.length → acc.length + k ≤ 4294967295 →
    L_bag_Cross_3 C D (x.map Val.pv) A n i (s.map rowp) (s.length : Int) (j : Int) X Y E (acc.map rowp) = L_bag_Cross_2 C D A n (IntKind.wrap .i64 (i + 1)) X Y E ((acc ++ (s.drop j).map fun y => x ++ y).map rowp)
  | 0, j, acc, h, hl => by
    rw [L_bag_Cross_3_eq, show j = s.length by omega]
    simp
  | k + 1, j, acc, h, hl => by
    have hj : j < s.length := by omega
    have hy := hs _ (List.getElem_mem hj)
    rw [L_bag_Cross_3_eq]
    have hc := w_ConcatV [x, s[j]] (by simp) (by simp; omega)
    simp only [List.map_cons, List.map_nil, List.flatten_cons, List.flatten_nil, List.append_nil] at hc
    simp only [lt_len hj, nat_le, cond_true, Int.toNat_natCast, List.getElem?_map, List.getElem?_eq_getElem hj, Option.map_some, Option.bind_some, c_rowp, rowp_fold, hc, List.length_map, Bool.true_and, decide_eq_true (show acc.length + 1 ≤ 4294967296 by omega)]
    rw [wrap_succ (by omega)]
    have := cross3 C D E F x A n i s hx hs hsn X Y k (j + 1) (acc ++ [x ++ s[j]]) (by omega) (by simp; omega)
    simp only [List.map_append, List.map_cons, List.map_nil] at this
    simp only [rowp, List.map_append] at this ⊢
    rw [this, List.drop_eq_getElem_cons hj]
    simp only [List.map_cons, List.append_assoc, List.cons_append, List.nil_append, rowp, List.map_append]
theorem cross2 (C D E F : List PV) (r s : List (List Val)) (hr : ∀ x ∈ r, x.length ≤ 100) (hs : ∀ y ∈ s, y.length ≤ 100) (hl : r.length ≤ 5000) (hsn : s.length ≤ 5000) (X Y : List PV) : ∀ (k i : Nat) (acc : List (List Val)), i + k = r.length → acc.length + (prodR (r.drop i) s).length ≤ 4294967295 →
    L_bag_Cross_2 C (s.map rowp) (r.map rowp) (r.length : Int) (i : Int) X Y E (acc.map rowp) = some (.tup [.agg [.slice 0 E, tabp (acc ++ prodR (r.drop i) s)], .bool true])
  | 0, i, acc, h, hb => by
    rw [L_bag_Cross_2_eq, show i = r.length by omega]
    simp [prodR]
  | k + 1, i, acc, h, hb => by
    have hi : i < r.length := by omega
    have hp : prodR (r.drop i) s = (s.map fun y => r[i] ++ y) ++ prodR (r.drop (i + 1)) s := by
      rw [List.drop_eq_getElem_cons hi]; rfl
    rw [hp] at hb ⊢
    simp only [List.length_append, List.length_map] at hb
    rw [L_bag_Cross_2_eq]
    simp only [lt_len hi, nat_le, cond_true, Int.toNat_natCast, List.getElem?_map, List.getElem?_eq_getElem hi, Option.map_some, Option.bind_some, c_rowp, List.length_map]
    have h3 := cross3 C (s.map rowp) E F r[i] (r.map rowp) (r.length : Int) (i : Int) s (hr _ (List.getElem_mem hi)) hs hsn X Y s.length 0 acc (by omega) (by omega)
    refine h3.trans ?_
    rw [wrap_succ (by omega), List.drop_zero]
    have := cross2 C D E F r s hr hs hl hsn X Y k (i + 1) (acc ++ s.map fun y => r[i] ++ y) (by omega) (by simp only [List.length_append, List.length_map]; omega)
    rw [this, List.append_assoc]
def crossB (c : List Int) (r : List (List Val)) (d : List Int) (s : List (List Val)) : Option (List Int × List (List Val)) :=
  bif mayB c r && mayB d s && mayB (c ++ d) [] && decide (r.length * s.length ≤ 5000) then some (c ++ d, prodR r s) else none
def bagR (x : Option (List Int × List (List Val))) : PV := match x with | some b => .tup [bagp b.1 b.2, .bool true] | none => .tup [bagp [] [], .bool false]
theorem colsB_len {c : List Int} (h : colsB c = true) : c.length ≤ 16 := by
  obtain ⟨h1, h2⟩ := (colsB_iff c).1 h
  have hsub : c ⊆ (List.range 16).map fun n : Nat => (n : Int) := by
    intro x hx
    have := h1 x hx
    rw [List.mem_map]
    exact ⟨x.toNat, by simp; omega, by omega⟩
  have := List.Nodup.length_le_of_subset h2 hsub
  simpa using this
theorem mayB_row {c : List Int} {r : List (List Val)} (h : mayB c r = true) : c.length ≤ 16 ∧ r.length ≤ 5000 ∧ ∀ x ∈ r, x.length = c.length ∧ x.all mayV = true := by
  unfold mayB at h
  simp only [Bool.and_eq_true, decide_eq_true_eq, List.all_eq_true] at h
  refine ⟨colsB_len h.1.1, h.2, fun x hx => ?_⟩
  have := h.1.2 x hx
  unfold rowB at this
  simp only [Bool.and_eq_true, decide_eq_true_eq] at this
  exact this
theorem prodR_len (r s : List (List Val)) : (prodR r s).length = r.length * s.length := by
  unfold prodR
  induction r with
  | nil => simp
  | cons a r ih => rw [List.flatMap_cons, List.length_append, ih, List.length_map, List.length_cons, Nat.succ_mul]; omega
theorem w_Cross (c : List Int) (r : List (List Val)) (d : List Int) (s : List (List Val)) (hcd : c.length + d.length ≤ 4294967296) (hr : r.length ≤ 9223372036854775807) (hs : s.length ≤ 9223372036854775807)
    (hrl : ∀ x ∈ r, x.length ≤ 9223372036854775807) (hsl : ∀ x ∈ s, x.length ≤ 9223372036854775807) : wc W n_bag_Cross [bagp c r, bagp d s] = some (bagR (crossB c r d s)) := by
  have h := e_bag_Cross (c.map intp) (r.map rowp) (d.map intp) (s.map rowp)
  rw [intsp_fold, intsp_fold, tabp_fold, tabp_fold, bagp_fold, bagp_fold] at h
  have hc := w_ConcatI [c, d] (by simp) (by simpa using hcd)
  simp only [List.map_cons, List.map_nil, List.flatten_cons, List.flatten_nil, List.append_nil] at hc
  have e0 : PV.agg [intsp (c ++ d), PV.slice 0 []] = bagp (c ++ d) [] := rfl
  rw [h, hc]
  simp only [Option.bind_some, c_intsp, intsp_fold, e0, w_bag_May c r (by omega) hr hrl, w_bag_May d s (by omega) hs hsl, w_bag_May (c ++ d) [] (by simp; omega) (by simp) (by simp), c_b_mk, List.length_map]
  unfold crossB
  cases h1 : mayB c r with
  | false => rfl
  | true =>
    cases h2 : mayB d s with
    | false => rfl
    | true =>
      cases h3 : mayB (c ++ d) [] with
      | false => rfl
      | true =>
        obtain ⟨a1, a2, a3⟩ := mayB_row h1
        obtain ⟨b1, b2, b3⟩ := mayB_row h2
        have hm : r.length * s.length ≤ 5000 * 5000 := Nat.mul_le_mul a2 b2
        have hw : IntKind.wrap .i64 ((r.length : Int) * (s.length : Int)) = ((r.length * s.length : Nat) : Int) := by
          rw [← Int.natCast_mul, wrap64 (by omega) (by omega)]
        rw [hw]
        by_cases h4 : r.length * s.length ≤ 5000
        · rw [decide_eq_true h4, decide_eq_false (show ¬ ((r.length * s.length : Nat) : Int) > 5000 by omega)]
          simp only [Bool.not_true, cond_false, Bool.and_self, cond_true, J_bag_Cross_1_eq, List.length_map]
          have := cross2 (d.map intp) [] ((c ++ d).map intp) [] r s (fun x hx => by have := (a3 x hx).1; omega) (fun x hx => by have := (b3 x hx).1; omega) a2 b2 [] [] r.length 0 [] (by omega) (by rw [List.drop_zero, prodR_len]; simp; omega)
          simp only [List.map_nil, List.drop_zero, List.nil_append] at this
          exact this
        · rw [decide_eq_false h4, decide_eq_true (show ((r.length * s.length : Nat) : Int) > 5000 by omega)]
          rfl
end Go.Cf

namespace Go.Cf
open Go Go.Ab
set_option linter.unusedVariables false
set_option linter.unusedSimpArgs false
theorem ofT_some {T : List Def} {D : List (List (List Val))} {t o : Int} {q : List Int × List (List Val)} (h : ofT T D t o = some q) :
    fits T D = true ∧ 0 ≤ t ∧ t < (T.length : Int) ∧ 0 ≤ o ∧ o ≤ 3 ∧ q = (colsOf o 0 (colsAt T t.toNat).toNat, D.getD t.toNat []) := by
  unfold ofT at h
  cases hb : (fits T D && (decide (0 ≤ t) && decide (t ≤ (T.length : Int) - 1)) && (decide (0 ≤ o) && decide (o ≤ 3))) with
  | false => rw [hb] at h; cases h
  | true =>
    rw [hb] at h
    simp only [cond_true, Option.some.injEq] at h
    simp only [Bool.and_eq_true, decide_eq_true_eq] at hb
    exact ⟨hb.1.1, hb.1.2.1, by omega, hb.2.1, hb.2.2, h.symm⟩
theorem colsOf_B (o : Int) (n : Nat) (h : 0 ≤ o ∧ o ≤ 3) (hn : n ≤ 4) : colsB (colsOf o 0 n) = true := by
  rw [colsB_iff]
  constructor
  · intro c hc
    unfold colsOf at hc
    obtain ⟨i, hi, rfl⟩ := List.mem_map.1 hc
    rw [List.mem_range'_1] at hi
    omega
  · unfold colsOf List.Nodup
    rw [List.pairwise_map]
    refine List.Pairwise.imp ?_ (List.pairwise_lt_range' (s := 0) (n := n) (step := 1))
    intro a b hab; omega
theorem cols_cross (a b : Int) (n : Nat) (ha : 0 ≤ a ∧ a ≤ 3) (hb : 0 ≤ b ∧ b ≤ 3) (hn : n ≤ 4) (h1 : 1 ≤ n) : mayB (colsOf a 0 n ++ colsOf b 0 n) [] = decide (a ≠ b) := by
  have e : mayB (colsOf a 0 n ++ colsOf b 0 n) [] = colsB (colsOf a 0 n ++ colsOf b 0 n) := by simp [mayB]
  rw [e]
  obtain ⟨a1, a2⟩ := (colsB_iff _).1 (colsOf_B a n ha hn)
  obtain ⟨b1, b2⟩ := (colsB_iff _).1 (colsOf_B b n hb hn)
  by_cases hab : a = b
  · subst hab
    rw [decide_eq_false (by simp), Bool.eq_false_iff]
    intro h
    have h2 := ((colsB_iff _).1 h).2
    rw [List.nodup_append] at h2
    have hm : 4 * a + (0 : Nat) ∈ colsOf a 0 n := List.mem_map.2 ⟨0, by rw [List.mem_range'_1]; omega, rfl⟩
    exact h2.2.2 _ hm _ hm rfl
  · rw [decide_eq_true hab, colsB_iff]
    refine ⟨fun c hc => ?_, ?_⟩
    · rcases List.mem_append.1 hc with h | h
      · exact a1 c h
      · exact b1 c h
    · rw [List.nodup_append]
      refine ⟨a2, b2, fun x hx y hy => ?_⟩
      unfold colsOf at hx hy
      obtain ⟨i, hi, rfl⟩ := List.mem_map.1 hx
      obtain ⟨j, hj, rfl⟩ := List.mem_map.1 hy
      rw [List.mem_range'_1] at hi hj
      omega
theorem w_DataOf (T : List Def) (D : List (List (List Val))) (t a b : Int) (hT : T.length ≤ 9223372036854775807) (hD : DOk D) : wc W n_roadbooklaw04_DataOf [catp T, datap D, .int .i64 t, .int .i64 a, .int .i64 b] = some (.bool true) := by
  have h := e_roadbooklaw04_DataOf (T.map Def.pv) (D.map tabp) t a b
  rw [catp_fold, datap_fold] at h
  obtain ⟨f, hf⟩ := w_few D hD
  rw [h, w_awake, hf]
  simp only [Option.bind_some, c_b_mk, Bool.not_true, cond_false, List.length_map]
  cases f with
  | false => rfl
  | true =>
    by_cases h10 : (T.length : Int) > 10
    · rw [decide_eq_true h10]; rfl
    rw [decide_eq_false h10]
    simp only [Bool.not_true, cond_false, J_roadbooklaw04_DataOf_1_eq, catp_fold, datap_fold, w_Of T D t a hT hD, w_Of T D t b hT hD, Option.bind_some]
    cases hx : ofT T D t a with
    | none =>
      simp only [ofP, asTup_mk, Option.bind_some, List.getElem?_cons_zero, List.getElem?_cons_succ, c_bagp, c_b_mk, Bool.not_false, cond_true]
      cases ofT T D t b <;> simp [ofP]
    | some q =>
      cases hy : ofT T D t b with
      | none => simp [ofP]
      | some p =>
        obtain ⟨f1, t0, t1, a0, a3, rfl⟩ := ofT_some hx
        obtain ⟨_, _, _, b0, b3, rfl⟩ := ofT_some hy
        obtain ⟨m, rfl⟩ := Int.eq_ofNat_of_zero_le t0
        obtain ⟨g1, g2, g3⟩ := fits_tab f1
        have hm : m < T.length := by omega
        have hmD : m < D.length := by omega
        obtain ⟨c1, c4⟩ := mayC_cols g2 hm
        obtain ⟨r8, rr⟩ := tab_rows (g3 m hmD) c4
        obtain ⟨n, hn⟩ := Int.eq_ofNat_of_zero_le (show 0 ≤ colsAt T m by omega)
        have hg : D.getD m [] = D[m] := by simp [List.getD_eq_getElem?_getD, List.getElem?_eq_getElem hmD]
        simp only [Int.toNat_natCast, hn, hg]
        generalize hR : D[m] = R at r8 rr
        have hcl : ∀ o, (colsOf o 0 n).length = n := fun o => by simp [colsOf]
        have hmay : ∀ o, 0 ≤ o → o ≤ 3 → mayB (colsOf o 0 n) R = true := by
          intro o h0 h3
          unfold mayB
          rw [colsOf_B o n ⟨h0, h3⟩ (by omega), decide_eq_true (show R.length ≤ 5000 by omega)]
          simp only [Bool.true_and, Bool.and_true, List.all_eq_true]
          intro x hx
          have := rr x hx
          unfold rowB
          rw [this.2.2, hcl, decide_eq_true (by omega)]; rfl
        have hrl : ∀ x ∈ R, x.length ≤ 9223372036854775807 := fun x hx => by have := rr x hx; omega
        have hcross : crossB (colsOf a 0 n) R (colsOf b 0 n) R = bif decide (a ≠ b) then some (colsOf a 0 n ++ colsOf b 0 n, prodR R R) else none := by
          unfold crossB
          have : R.length * R.length ≤ 8 * 8 := Nat.mul_le_mul r8 r8
          rw [hmay a a0 a3, hmay b b0 b3, cols_cross a b n ⟨a0, a3⟩ ⟨b0, b3⟩ (by omega) (by omega), decide_eq_true (show R.length * R.length ≤ 5000 by omega)]
          simp
        simp only [ofP, asTup_mk, Option.bind_some, List.getElem?_cons_zero, List.getElem?_cons_succ, c_bagp, c_b_mk, Bool.not_true, cond_false, J_roadbooklaw04_DataOf_2_eq, intsp_fold, tabp_fold, bagp_fold,
          w_Cross (colsOf a 0 n) R (colsOf b 0 n) R (by rw [hcl, hcl]; omega) (by omega) (by omega) hrl hrl, hcross, w_bag_May (colsOf a 0 n) R (by rw [hcl]; omega) (by omega) hrl, w_bag_May (colsOf b 0 n) R (by rw [hcl]; omega) (by omega) hrl, hmay a a0 a3, hmay b b0 b3]
        have hb1 : ∃ cc rr, bagR (bif decide (a ≠ b) then some (colsOf a 0 n ++ colsOf b 0 n, prodR R R) else none) = .tup [bagp cc rr, .bool (decide (a ≠ b))] := by
          by_cases hab : a = b
          · rw [decide_eq_false (by simpa using hab)]; exact ⟨[], [], rfl⟩
          · rw [decide_eq_true hab]; exact ⟨_, _, rfl⟩
        obtain ⟨cc, rr', hb1⟩ := hb1
        rw [hb1]
        have hne : (decide (a ≠ b) == (a == b)) = false := by
          by_cases hab : a = b
          · subst hab; simp
          · rw [decide_eq_true hab, beq_f hab]; rfl
        have hRm : D[m].length = R.length := by rw [hR]
        simp only [asTup_mk, Option.bind_some, List.getElem?_cons_zero, List.getElem?_cons_succ, c_bagp, c_b_mk, List.length_map, bne_self_eq_false, cond_false, hne, decide_eq_false (show ¬ (m : Int) < 0 by omega), decide_eq_false (show ¬ (m : Int) ≥ (D.length : Int) by omega), nat_le, cond_true, Int.toNat_natCast, List.getElem?_map, List.getElem?_eq_getElem hmD, Option.map_some, c_tabp, hRm, J_roadbooklaw04_DataOf_3_eq]
        rw [loop_all (fun i => L_roadbooklaw04_DataOf_4 i ((colsOf a 0 n).map intp) (R.map rowp) ((colsOf b 0 n).map intp) (R.map rowp) (cc.map intp) (rr'.map rowp)) R.length (fun _ => true) (some (.bool false)) (some (.bool true)) ?_ ?_]
        · rw [show ((List.range R.length).all fun _ => true) = true from List.all_eq_true.2 (fun _ _ => rfl)]; rfl
        · intro i hi
          rw [L_roadbooklaw04_DataOf_4_eq]
          simp only [List.length_map, lt_len hi, nat_le, cond_true, Int.toNat_natCast, List.getElem?_map, List.getElem?_eq_getElem hi, Option.map_some, Option.bind_some, c_rowp, rowp_fold, wr_Row _ _ (hrl _ (List.getElem_mem hi)), decide_true, c_b_mk, Bool.not_true, cond_false]
          rw [wrap64 (by omega) (by omega)]
        · rw [L_roadbooklaw04_DataOf_4_eq]; simp
end Go.Cf

namespace Go.Cf
open Go Go.Ab
theorem law_DataTells (T : List Def) (D : List (List (List Val))) (t o n : Int) (hT : T.length ≤ 9223372036854775807) (hD : DOk D) (_ : I64 t) (_ : I64 o) (_ : I64 n) : wc W n_roadbooklaw04_DataTells [catp T, datap D, .int .i64 t, .int .i64 o, .int .i64 n] = some (.bool true) := w_DataTells T D t o n hT hD
theorem law_DataCols (o c n : Int) (_ : I64 o) (_ : I64 c) (_ : I64 n) : wc W n_roadbooklaw04_DataCols [.int .i64 o, .int .i64 c, .int .i64 n] = some (.bool true) := w_DataCols o c n
theorem law_DataLess (T : List Def) (D : List (List (List Val))) (t r : Int) (hT : T.length ≤ 9223372036854775807) (hD : DOk D) (_ : I64 t) (_ : I64 r) : wc W n_roadbooklaw04_DataLess [catp T, datap D, .int .i64 t, .int .i64 r] = some (.bool true) := w_DataLess T D t r hT hD
theorem law_DataOf (T : List Def) (D : List (List (List Val))) (t a b : Int) (hT : T.length ≤ 9223372036854775807) (hD : DOk D) (_ : I64 t) (_ : I64 a) (_ : I64 b) : wc W n_roadbooklaw04_DataOf [catp T, datap D, .int .i64 t, .int .i64 a, .int .i64 b] = some (.bool true) := w_DataOf T D t a b hT hD
end Go.Cf
