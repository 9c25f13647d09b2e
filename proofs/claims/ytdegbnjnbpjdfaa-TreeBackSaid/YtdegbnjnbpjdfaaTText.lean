/- Plain facts on trees' texts: what a text is, and that no two trees have one. -/
import Derived.Test.YtdegbnjnbpjdfaaTSet
import Derived.Test.YtdegbnjnbpjdfaaT6
namespace Go.Proofs.Ytdegbnjnbpjdfaa.T
open Go.RowKit Go.Proofs.YtdegbnjnbpjdfaaW.PrintWords Go.Proofs.YtdegbnjnbpjdfaaW.PrintLast Go.Proofs.YtdegbnjnbpjdfaaW.PrintMore
set_option linter.unusedVariables false
set_option linter.unusedSimpArgs false
/-- the text's signs -/
def tx : Nat → Tr → List UInt8
  | 0, _ => []
  | d + 1, t => match t.f1 with
    | [a, b] => 40 :: (tx d a ++ (tx d b ++ [41]))
    | _ => (strOfRune (wrap32 (wrap64 (48 + t.f0)))).data.toList
theorem tx_leaf (d : Nat) (o : Int) : tx (d + 1) ⟨o, []⟩ = (strOfRune (wrap32 (wrap64 (48 + o)))).data.toList := rfl
theorem tx_two (d : Nat) (o : Int) (a b : Tr) : tx (d + 1) ⟨o, [a, b]⟩ = 40 :: (tx d a ++ (tx d b ++ [41])) := rfl
theorem rune_leaf (o : Int) (h0 : 0 ≤ o) (h1 : o < 4) : (strOfRune (wrap32 (wrap64 (48 + o)))).data.toList = [UInt8.ofNat (48 + o.toNat)] := by
  have : o = 0 ∨ o = 1 ∨ o = 2 ∨ o = 3 := by omega
  rcases this with rfl | rfl | rfl | rfl <;> decide +kernel
/-- a tree that may be is a leaf, or two that may be -/
theorem good_cases {d : Nat} {t : Tr} (h : (setV (d + 1) t).2 = true) : (∃ o, t = ⟨o, []⟩ ∧ 0 ≤ o ∧ o < 4) ∨ ∃ a b, t = ⟨0, [a, b]⟩ ∧ (setV d a).2 = true ∧ (setV d b).2 = true ∧ Go.bits .and .i64 (setV d a).1 (setV d b).1 = 0 := by
  obtain ⟨o, l⟩ := t
  rcases l with _ | ⟨a, _ | ⟨b, _ | ⟨c, l⟩⟩⟩
  · rw [setV_leaf] at h
    simp only [Bool.and_eq_true, decide_eq_true_eq] at h
    exact .inl ⟨o, rfl, h⟩
  · simp [setV] at h
  · rw [setV_two] at h
    by_cases ho : o = 0
    · rw [if_pos ho] at h
      simp only [Bool.and_eq_true, beq_iff_eq] at h
      exact .inr ⟨a, b, by rw [ho], h.1.1, h.1.2, h.2⟩
    · rw [if_neg ho] at h; simp at h
  · simp [setV] at h
theorem tx_len : ∀ (d : Nat) (t : Tr), (setV d t).2 = true → 1 ≤ (tx d t).length ∧ (tx d t).length ≤ 4 ^ d
  | 0, t, h => by simp [setV] at h
  | d + 1, t, h => by
    rcases good_cases h with ⟨o, rfl, h0, h1⟩ | ⟨a, b, rfl, ha, hb, _⟩
    · rw [tx_leaf, rune_leaf o h0 h1]
      have : 0 < 4 ^ (d + 1) := Nat.pow_pos (by omega)
      simp only [List.length_cons, List.length_nil]; omega
    · rw [tx_two]
      have h1 := tx_len d a ha
      have h2 := tx_len d b hb
      simp only [List.length_cons, List.length_append, List.length_nil]
      have : 4 ^ (d + 1) = 4 * 4 ^ d := by rw [Nat.pow_succ]; omega
      omega
theorem size_data (s : ByteArray) : s.size = s.data.toList.length := by simp
theorem text_ev : ∀ (d : Nat) (t : Tr), (setV d t).2 = true → d ≤ 4 → ∃ s : ByteArray, s.data.toList = tx d t ∧ Ev (fun k => tree_text.f k t.f0 t.f1) s
  | 0, t, h, _ => by simp [setV] at h
  | d + 1, t, h, hd => by
    rcases good_cases h with ⟨o, rfl, h0, h1⟩ | ⟨a, b, rfl, ha, hb, _⟩
    · refine ⟨_, rfl, Ev.succ' (Ev.of_eq (Ev.const _) fun k => ?_)⟩
      simp only [tree_text.f]
      rw [if_pos (by simp)]
    · obtain ⟨s, es, hs⟩ := text_ev d a ha (by omega)
      obtain ⟨u, eu, hu⟩ := text_ev d b hb (by omega)
      have l1 := (tx_len d a ha).2
      have l2 := (tx_len d b hb).2
      have hp : 4 ^ d ≤ 4 ^ 4 := Nat.pow_le_pow_right (by omega) (by omega)
      have z1 : s.size ≤ 256 := by rw [size_data, es]; exact Nat.le_trans l1 hp
      have z2 : u.size ≤ 256 := by rw [size_data, eu]; exact Nat.le_trans l2 hp
      refine ⟨((⟨#[40]⟩ ++ s) ++ u) ++ ⟨#[41]⟩, ?_, ?_⟩
      · rw [tx_two]; simp [es, eu]
      · refine Ev.succ' ?_
        simp only [tree_text.f]
        have q0 : ¬ ((([a, b] : List Tr).length : Int) = 0) := by simp
        have q1 : (0 : Int) < (([a, b] : List Tr).length : Int) := by simp
        have q2 : (1 : Int) < (([a, b] : List Tr).length : Int) := by simp
        simp only [q0, q1, q2, if_true, if_false]
        refine Ev.bind (g := fun k => tree_text.f k a.f0 a.f1) hs ?_
        have y1 : 1 + s.size ≤ 9223372036854775807 := by omega
        simp only [y1, if_true]
        refine Ev.bind (g := fun k => tree_text.f k b.f0 b.f1) hu ?_
        have y2 : ((⟨#[40]⟩ : ByteArray) ++ s).size + u.size ≤ 9223372036854775807 := by
          rw [ByteArray.size_append, show (⟨#[40]⟩ : ByteArray).size = 1 from rfl]; omega
        have y3 : (((⟨#[40]⟩ : ByteArray) ++ s) ++ u).size + 1 ≤ 9223372036854775807 := by
          rw [ByteArray.size_append, ByteArray.size_append, show (⟨#[40]⟩ : ByteArray).size = 1 from rfl]; omega
        simp only [y2, y3, if_true]
        exact Ev.const _
theorem Text_ev (t : Tr) (h : (setV 4 t).2 = true) : ∃ s : ByteArray, s.data.toList = tx 4 t ∧ Ev (fun k => tree_Text.f k t.f0 t.f1) s := by
  obtain ⟨s, e, hs⟩ := text_ev 4 t h (by omega)
  refine ⟨s, e, ?_⟩
  refine Ev.of_eq (Ev.bind (may_ev t) (h := fun k x => if x = true then ((tree_text.f k t.f0 t.f1).bind fun y => some y) else some (⟨#[]⟩ : ByteArray)) ?_) fun k => rfl
  simp only [h, if_true]
  exact Ev.bind hs (Ev.const s)
/-- no tree's text begins another's -/
theorem tx_inj : ∀ (d : Nat) (a b : Tr) (u v : List UInt8), (setV d a).2 = true → (setV d b).2 = true → tx d a ++ u = tx d b ++ v → a = b ∧ u = v
  | 0, a, _, _, _, h, _, _ => by simp [setV] at h
  | d + 1, a, b, u, v, ha, hb, he => by
    have cmp : ∀ o : Int, 0 ≤ o → o < 4 → UInt8.ofNat (48 + o.toNat) ≠ 40 := by
      intro o h0 h1
      have : o = 0 ∨ o = 1 ∨ o = 2 ∨ o = 3 := by omega
      rcases this with rfl | rfl | rfl | rfl <;> decide
    rcases good_cases ha with ⟨o, rfl, h0, h1⟩ | ⟨a1, a2, rfl, ha1, ha2, _⟩
    · rcases good_cases hb with ⟨q, rfl, h2, h3⟩ | ⟨b1, b2, rfl, hb1, hb2, _⟩
      · rw [tx_leaf, tx_leaf, rune_leaf o h0 h1, rune_leaf q h2 h3] at he
        simp only [List.cons_append, List.nil_append, List.cons.injEq] at he
        have e1 : o = 0 ∨ o = 1 ∨ o = 2 ∨ o = 3 := by omega
        have e2 : q = 0 ∨ q = 1 ∨ q = 2 ∨ q = 3 := by omega
        have : o = q := by
          rcases e1 with rfl | rfl | rfl | rfl <;> rcases e2 with rfl | rfl | rfl | rfl <;> first | rfl | exact absurd he.1 (by decide)
        exact ⟨by rw [this], he.2⟩
      · rw [tx_leaf, tx_two, rune_leaf o h0 h1] at he
        simp only [List.cons_append, List.nil_append, List.cons.injEq] at he
        exact absurd he.1 (cmp o h0 h1)
    · rcases good_cases hb with ⟨q, rfl, h2, h3⟩ | ⟨b1, b2, rfl, hb1, hb2, _⟩
      · rw [tx_leaf, tx_two, rune_leaf q h2 h3] at he
        simp only [List.cons_append, List.nil_append, List.cons.injEq] at he
        exact absurd he.1.symm (cmp q h2 h3)
      · rw [tx_two, tx_two] at he
        simp only [List.cons_append, List.append_assoc, List.cons.injEq, true_and] at he
        obtain ⟨e1, he⟩ := tx_inj d a1 b1 _ _ ha1 hb1 he
        obtain ⟨e2, he⟩ := tx_inj d a2 b2 _ _ ha2 hb2 he
        simp only [List.nil_append, List.cons.injEq, true_and] at he
        exact ⟨by rw [e1, e2], he⟩
end Go.Proofs.Ytdegbnjnbpjdfaa.T
