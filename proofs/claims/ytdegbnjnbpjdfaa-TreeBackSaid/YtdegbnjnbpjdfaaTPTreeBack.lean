/- TreeBack over plain data: the text of a tree is read as it; a text that is read is its text. Conditions: none. -/
import Derived.Test.YtdegbnjnbpjdfaaTSTreeBack
import Derived.Test.YtdegbnjnbpjdfaaTRead
import Derived.Test.YtdegbnjnbpjdfaaTAwake
import Derived.Test.YtdegbnjnbpjdfaaT19
namespace Go.Proofs.Ytdegbnjnbpjdfaa.T
open Go.RowKit Go.Proofs.YtdegbnjnbpjdfaaW.PrintWords Go.Proofs.YtdegbnjnbpjdfaaW.PrintLast Go.Proofs.YtdegbnjnbpjdfaaW.PrintMore
set_option linter.unusedVariables false
set_option linter.unusedSimpArgs false
theorem wf_of_back {t : Tr} (h : wf_S39 t) : Wf t := by
  induction h with
  | mk x h0 h1 g1 ih => exact .mk x (wf_i64 h0) h1 ih
/-- the document's sameness, of a tree and itself -/
theorem rsame_refl (a : Tr) (hw : Wf a) : Ev (fun k => roadbookref06_Same.f k a.f0 a.f1 a.f0 a.f1) true := by
  have hparts : ∀ y ∈ a.f1, Wf y := by cases hw; assumption
  have hlen : a.f1.length ≤ 9223372036854775807 := by cases hw; assumption
  have key : ∀ (m i : Nat), a.f1.length - i ≤ m → Ev (fun k => roadbookref06_Same.l0 k (i : Int) a.f0 a.f1 a.f0 a.f1) true := by
    intro m
    have fin : ∀ i : Nat, a.f1.length ≤ i → Ev (fun k => roadbookref06_Same.l0 k (i : Int) a.f0 a.f1 a.f0 a.f1) true := by
      intro i hi
      refine Ev.succ' ?_
      simp only [roadbookref06_Same.l0]
      have c0 : ¬ ((i : Int) < (a.f1.length : Int)) := by omega
      simp only [c0, if_false]
      exact Ev.const true
    induction m with
    | zero => intro i hi; exact fin i (by omega)
    | succ m ih =>
      intro i hm
      by_cases hi : i < a.f1.length
      · refine Ev.succ' ?_
        simp only [roadbookref06_Same.l0]
        have c0 : (i : Int) < (a.f1.length : Int) := by omega
        have c1 : (0 : Int) ≤ (i : Int) := by omega
        simp only [c0, c1, if_true, rd_nat _ _ hi]
        have h1 := rsame_refl a.f1[i] (hparts _ (List.getElem_mem hi))
        refine Ev.bind h1 ?_
        simp only [if_true]
        rw [wrap_id (by omega) (by omega)]
        exact ih (i + 1) (by omega)
      · exact fin i (by omega)
  refine Ev.succ' ?_
  simp only [roadbookref06_Same.f, if_true]
  refine Ev.succ' ?_
  simp only [roadbookref06_Same.j0]
  have : ((a.f1.length : Int) != (a.f1.length : Int)) = false := by simp
  simp only [this, Bool.false_eq_true, if_false]
  exact key a.f1.length 0 (by omega)
termination_by SizeOf.sizeOf a
decreasing_by exact sizeOf_part a _ hi
/-- what is read of the text of a tree that may be -/
theorem read_text (t : Tr) (ht : (setV 4 t).2 = true) (s : ByteArray) (hs : s.data.toList = tx 4 t) : Ev (fun k => tree_Read.f k s) (t.f0, t.f1, true) := by
  have hl := (tx_len 4 t ht).2
  have hsz : s.size = (tx 4 t).length := by rw [size_data, hs]
  have hgo : readGo s s.size 0 [] [] = some ([t], []) := by
    have h := (go_text 4 t ht s 0 0 [] [] [] (by simp [hs])).1
    rw [Nat.add_zero] at h
    rw [hsz, h]
    rfl
  unfold tree_Read.f
  have c0 : s.size < 1099511627776 := by omega
  simp only [c0, if_true, hgo]
  have c1 : ([t] : List Tr).length = 1 ∧ ([] : List Int).length = 0 := ⟨rfl, rfl⟩
  have e : rd_T39 [t] 0 = t := rfl
  simp only [c1, and_self, if_true, e]
  refine Ev.bind (may_ev t) ?_
  simp only [ht, if_true]
  exact Ev.const _
theorem read_none : Ev (fun k => tree_Read.f k ⟨#[]⟩) (0, [], false) := by
  refine Ev.of_eq (Ev.const _) fun k => ?_
  unfold tree_Read.f
  rfl
/-- a step keeps what is told of the signs -/
theorem st_step {d d' : List Tr} {f f' : List Int} {w : List UInt8} {c : UInt8} (h : St d f w) (hs : readStep (c.toNat : Int) d f = some (d', f')) : St d' f' (w ++ [c]) := by
  unfold readStep at hs
  by_cases h40 : (c.toNat : Int) = 40
  · rw [if_pos h40] at hs
    simp only [Option.some.injEq, Prod.mk.injEq] at hs
    obtain ⟨rfl, rfl⟩ := hs
    obtain rfl : c = 40 := by apply UInt8.toNat_inj.1; have : c.toNat = 40 := by omega
                              rw [this]; rfl
    exact St.opened d f w h
  · rw [if_neg h40] at hs
    by_cases h48 : 48 ≤ (c.toNat : Int) ∧ (c.toNat : Int) < 52
    · rw [if_pos h48] at hs
      simp only [Option.some.injEq, Prod.mk.injEq] at hs
      obtain ⟨rfl, rfl⟩ := hs
      have hb := Built.leaf ((c.toNat : Int) - 48) (by omega) (by omega)
      have : UInt8.ofNat (48 + ((c.toNat : Int) - 48).toNat) = c := by
        have e : 48 + ((c.toNat : Int) - 48).toNat = c.toNat := by omega
        rw [e]; simp
      rw [this] at hb
      exact St.done d f w [c] _ h hb
    · rw [if_neg h48] at hs
      by_cases h41 : (c.toNat : Int) = 41 ∧ 0 < f.length ∧ (d.length : Int) = rd f ((f.length - 1 : Nat) : Int) + 2
      · rw [if_pos h41] at hs
        obtain ⟨hc, hf, hd⟩ := h41
        obtain rfl : c = 41 := by apply UInt8.toNat_inj.1; have : c.toNat = 41 := by omega
                                  rw [this]; rfl
        obtain ⟨f0, x, rfl⟩ : ∃ f0 x, f = f0 ++ [x] := ⟨f.dropLast, f.getLast (by intro e; rw [e] at hf; simp at hf), (List.dropLast_concat_getLast _).symm⟩
        have hlen : (f0 ++ [x]).length = f0.length + 1 := by simp
        have hx : rd (f0 ++ [x]) (((f0 ++ [x]).length - 1 : Nat) : Int) = x := by
          unfold rd
          rw [Int.toNat_natCast, hlen, Nat.add_sub_cancel, List.getD_eq_getElem?_getD, List.getElem?_append_right (by omega)]
          simp
        rw [hx] at hd
        have hx0 : 0 ≤ x := h.nonneg x (by simp)
        have hdl : 2 ≤ d.length := by omega
        obtain ⟨d1, b, rfl⟩ : ∃ d1 b, d = d1 ++ [b] := ⟨d.dropLast, d.getLast (by intro e; rw [e] at hdl; simp at hdl), (List.dropLast_concat_getLast _).symm⟩
        obtain ⟨d0, a, rfl⟩ : ∃ d0 a, d1 = d0 ++ [a] := by
          have : d1 ≠ [] := by intro e; rw [e] at hdl; simp at hdl
          exact ⟨d1.dropLast, d1.getLast this, (List.dropLast_concat_getLast _).symm⟩
        have hd0 : ((d0 ++ [a]) ++ [b]).length = d0.length + 2 := by simp
        obtain rfl : x = (d0.length : Int) := by omega
        have h3 := step_shut d0 a b f0
        unfold readStep at h3
        rw [if_neg (by decide), if_neg (by decide), if_pos ⟨rfl, by omega, by rw [hx]; omega⟩] at h3
        rw [h3] at hs
        simp only [Option.some.injEq, Prod.mk.injEq] at hs
        obtain ⟨rfl, rfl⟩ := hs
        exact h.shut
      · rw [if_neg h41] at hs; cases hs
theorem go_st : ∀ (n p : Nat) (s : ByteArray) (d d' : List Tr) (f f' : List Int), St d f (s.data.toList.take p) → s.size ≤ p + n → p ≤ s.size → readGo s n p d f = some (d', f') → St d' f' s.data.toList
  | 0, p, s, d, d', f, f', h, hn, hp, hg => by
    simp only [readGo, Option.some.injEq, Prod.mk.injEq] at hg
    obtain ⟨rfl, rfl⟩ := hg
    rwa [List.take_of_length_le (by rw [← size_data]; omega)] at h
  | n + 1, p, s, d, d', f, f', h, hn, hp, hg => by
    simp only [readGo] at hg
    by_cases hlt : p < s.size
    · rw [if_pos hlt] at hg
      obtain ⟨x, hx, hg⟩ := Option.bind_eq_some_iff.1 hg
      by_cases ha : (s[p]'hlt).toNat < 128
      · rw [decode_ascii s p hlt ha] at hx hg
        have h2 := st_step h hx
        have e : s.data.toList.take p ++ [s[p]'hlt] = s.data.toList.take (p + 1) := by
          rw [List.take_succ_eq_append_getElem (by rw [← size_data]; exact hlt)]; rfl
        rw [e] at h2
        exact go_st n (p + 1) s x.1 d' x.2 f' h2 (by omega) (by omega) hg
      · have hh := (decode_high s p hlt (by omega)).1
        have : readStep ((Utf8.decode s p).1 : Int) d f = none := by
          unfold readStep
          rw [if_neg (by omega), if_neg (by omega), if_neg (fun e => by omega)]
        rw [this] at hx; cases hx
    · rw [if_neg hlt] at hg
      simp only [Option.some.injEq, Prod.mk.injEq] at hg
      obtain ⟨rfl, rfl⟩ := hg
      rwa [List.take_of_length_le (by rw [← size_data]; omega)] at h
theorem st_one {t : Tr} {w : List UInt8} (h : St [t] [] w) : Built t w := by
  generalize hd : [t] = d at h
  generalize hf : ([] : List Int) = f at h
  cases h with
  | start => cases hd
  | opened d f w h => simp at hf
  | done d' f' w' u t' h ht =>
    subst hf
    have h1 : d' = [] ∧ t = t' := by
      cases d' with
      | nil => simp only [List.nil_append, List.cons.injEq, and_true] at hd; exact ⟨rfl, hd⟩
      | cons y ys => simp at hd
    obtain ⟨rfl, rfl⟩ := h1
    have : w' = [] := by
      generalize he : ([] : List Tr) = d0 at h
      generalize hf2 : ([] : List Int) = f0 at h
      cases h with
      | start => rfl
      | opened d f w h => simp at hf2
      | done d f w u t h ht => simp at he
    rw [this]; exact ht
/-- what is read has that text -/
theorem read_any (s : ByteArray) (hz : s.size ≤ 1000) : ∃ x0 x1 is, Ev (fun k => tree_Read.f k s) (x0, x1, is) ∧ (is = true → (setV 4 ⟨x0, x1⟩).2 = true ∧ s.data.toList = tx 4 ⟨x0, x1⟩) := by
  have c0 : s.size < 1099511627776 := by omega
  unfold tree_Read.f
  simp only [c0, if_true]
  cases hg : readGo s s.size 0 [] [] with
  | none => exact ⟨0, [], false, Ev.const _, fun h => by cases h⟩
  | some x =>
    obtain ⟨d, f⟩ := x
    simp only
    by_cases c1 : d.length = 1 ∧ f.length = 0
    · simp only [c1, and_self, if_true]
      obtain ⟨t, rfl⟩ := List.length_eq_one_iff.1 c1.1
      obtain rfl := List.eq_nil_of_length_eq_zero c1.2
      have e : rd_T39 [t] 0 = t := rfl
      simp only [e]
      have hst := go_st s.size 0 s [] [t] [] [] St.start (by omega) (by omega) hg
      cases hm : (setV 4 t).2 with
      | true =>
        refine ⟨t.f0, t.f1, true, ?_, fun _ => ?_⟩
        · refine Ev.bind (may_ev t) ?_
          simp only [hm, if_true]
          exact Ev.const _
        · rw [tr_eta]
          exact ⟨hm, built_tx 4 t _ hm (st_one hst)⟩
      | false =>
        refine ⟨0, [], false, ?_, fun h => by cases h⟩
        refine Ev.bind (may_ev t) ?_
        simp only [hm, Bool.false_eq_true, if_false]
        exact Ev.const _
    · refine ⟨0, [], false, ?_, fun h => by cases h⟩
      simp only [c1, if_false]
      exact Ev.const _
theorem tb_j1 (s : ByteArray) (hz : s.size ≤ 1000) : Ev (fun k => roadbooklaw06_TreeBack.j1 k s false) true := by
  obtain ⟨x0, x1, is, h, hi⟩ := read_any s hz
  refine Ev.succ' ?_
  simp only [roadbooklaw06_TreeBack.j1, Bool.false_eq_true, if_false]
  refine Ev.bind h ?_
  cases is with
  | false => simp only [Bool.false_eq_true, if_false]; exact Ev.const true
  | true =>
    obtain ⟨hm, ht⟩ := hi rfl
    simp only [if_true]
    refine Ev.bind (may_ev ⟨x0, x1⟩) ?_
    simp only [hm, if_true]
    obtain ⟨u, eu, hu⟩ := Text_ev ⟨x0, x1⟩ hm
    refine Ev.bind (g := fun k => tree_Text.f k x0 x1) hu ?_
    have : (u.toList == s.toList) = true := by rw [beq_iff_eq, ByteArray.toList_eq, ByteArray.toList_eq, eu, ht]
    rw [this]
    exact Ev.const true
theorem tb_j0 (t : Tr) (hw : Wf t) (s : ByteArray) (hz : s.size ≤ 1000) : Ev (fun k => roadbooklaw06_TreeBack.j0 k s true false t.f0 t.f1) true := by
  have hj := tb_j1 s hz
  refine Ev.succ' ?_
  simp only [roadbooklaw06_TreeBack.j0, Bool.false_eq_true, if_false]
  cases hm : (setV 4 t).2 with
  | true =>
    obtain ⟨u, eu, hu⟩ := Text_ev t hm
    refine Ev.bind (g := fun k => tree_Text.f k t.f0 t.f1) hu ?_
    refine Ev.bind (read_text t hm u eu) ?_
    refine Ev.bind (may_ev t) ?_
    rw [hm]
    simp only [bne_self_eq_false, Bool.false_eq_true, if_false, if_true]
    refine Ev.bind (rsame_refl t hw) ?_
    exact hj
  | false =>
    refine Ev.bind (g := fun k => tree_Text.f k t.f0 t.f1) (a := ⟨#[]⟩) ?_ ?_
    · refine Ev.of_eq (Ev.bind (may_ev t) (h := fun k x => if x = true then ((tree_text.f k t.f0 t.f1).bind fun y => some y) else some (⟨#[]⟩ : ByteArray)) ?_) fun k => rfl
      simp only [hm, Bool.false_eq_true, if_false]
      exact Ev.const _
    · refine Ev.bind read_none ?_
      refine Ev.bind (may_ev t) ?_
      rw [hm]
      simp only [bne_self_eq_false, Bool.false_eq_true, if_false]
      exact hj
theorem tb_up (t : Tr) (s : ByteArray) : Ev (fun k => roadbooklaw06_TreeBack.j0 k s true true t.f0 t.f1) true := by
  refine Ev.succ' ?_
  simp only [roadbooklaw06_TreeBack.j0, if_true]
  exact Ev.const true
theorem TreeBack_pure : TreeBack_Pure := by
  intro x0 s w0 w1
  refine Ev.get ?_
  unfold roadbooklaw06_TreeBack.f
  refine Ev.bind awake_ev ?_
  simp only [if_true]
  obtain ⟨r0, h0⟩ := size_ev x0 100 (wf_of_back w0)
  refine Ev.bind h0 ?_
  by_cases c0 : r0 > 100
  · simp only [c0, if_true]; exact tb_up x0 s
  · simp only [c0, if_false]
    by_cases c1 : (s.size : Int) > 1000
    · simp only [c1, decide_true]; exact tb_up x0 s
    · simp only [c1, decide_false]; exact tb_j0 x0 (wf_of_back w0) s (by omega)
end Go.Proofs.Ytdegbnjnbpjdfaa.T
