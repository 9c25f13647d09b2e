/- Plain facts on trees: what the fuel's functions come to, said once. -/
import Derived.Test.YtdegbnjnbpjdfaaT2
import Derived.Test.YtdegbnjnbpjdfaaT4
import Derived.Test.YtdegbnjnbpjdfaaT7
import Derived.Test.YtdegbnjnbpjdfaaT11
namespace Go.Proofs.Ytdegbnjnbpjdfaa.T
open Go.RowKit Go.Proofs.YtdegbnjnbpjdfaaW.PrintWords Go.Proofs.YtdegbnjnbpjdfaaW.PrintLast Go.Proofs.YtdegbnjnbpjdfaaW.PrintMore
set_option linter.unusedVariables false
set_option linter.unusedSimpArgs false
abbrev Tr := S39
/-- with enough fuel it comes to r -/
def Ev {α : Type} (f : Nat → Option α) (r : α) : Prop := ∃ K, ∀ k, K ≤ k → f k = some r
theorem Ev.const {α : Type} (r : α) : Ev (fun _ => some r) r := ⟨0, fun _ _ => rfl⟩
theorem Ev.of_eq {α : Type} {f g : Nat → Option α} {r : α} (h : Ev f r) (e : ∀ k, g k = f k) : Ev g r := by
  obtain ⟨K, h⟩ := h
  exact ⟨K, fun k hk => (e k).trans (h k hk)⟩
theorem Ev.succ {α : Type} {f g : Nat → Option α} {r : α} (h : Ev g r) (e : ∀ k, f (k + 1) = g k) : Ev f r := by
  obtain ⟨K, h⟩ := h
  refine ⟨K + 1, fun k hk => ?_⟩
  obtain ⟨j, rfl⟩ : ∃ j, k = j + 1 := ⟨k - 1, by omega⟩
  exact (e j).trans (h j (by omega))
theorem Ev.succ' {α : Type} {f : Nat → Option α} {r : α} (h : Ev (fun k => f (k + 1)) r) : Ev f r := Ev.succ h fun _ => rfl
theorem Ev.bind {α β : Type} {g : Nat → Option α} {h : Nat → α → Option β} {a : α} {b : β} (h1 : Ev g a) (h2 : Ev (fun k => h k a) b) : Ev (fun k => (g k).bind (h k)) b := by
  obtain ⟨K1, h1⟩ := h1
  obtain ⟨K2, h2⟩ := h2
  refine ⟨max K1 K2, fun k hk => ?_⟩
  show (g k).bind (h k) = some b
  rw [h1 k (by omega), Option.bind_some]
  exact h2 k (by omega)
theorem Ev.of_mono {α : Type} {f : Nat → Option α} {r : α} (hm : ∀ k, LeO (f k) (f (k + 1))) {K : Nat} (h : f K = some r) : Ev f r := by
  refine ⟨K, fun k hk => ?_⟩
  induction k with
  | zero => rw [show K = 0 by omega] at h; exact h
  | succ k ih =>
    by_cases e : K = k + 1
    · rw [← e]; exact h
    · exact hm k r (ih (by omega))
theorem Ev.get {α : Type} {f : Nat → Option α} {r : α} (h : Ev f r) : ∃ k, f k = some r := by
  obtain ⟨K, h⟩ := h
  exact ⟨K, h K (Nat.le_refl K)⟩
theorem wrap_id {n : Int} (h0 : -9223372036854775808 ≤ n) (h1 : n ≤ 9223372036854775807) : wrap64 n = n := by unfold wrap64; omega
theorem wf_i64 {n : Int} (h : (Lit.int .i64 n).wf = true) : -9223372036854775808 ≤ n ∧ n ≤ 9223372036854775807 := by
  simp only [Lit.wf, Bool.and_eq_true, decide_eq_true_eq] at h
  exact h
theorem tr_eta (x : Tr) : (⟨x.f0, x.f1⟩ : Tr) = x := by cases x; rfl
theorem rd_nat (l : List Tr) (i : Nat) (h : i < l.length) : rd_T39 l (i : Int) = l[i] := by
  unfold rd_T39
  rw [Int.toNat_natCast, List.getD_eq_getElem?_getD, List.getElem?_eq_getElem h]; rfl
theorem sizeOf_part (t : Tr) (i : Nat) (h : i < t.f1.length) : SizeOf.sizeOf t.f1[i] < SizeOf.sizeOf t := by
  have h1 := List.sizeOf_lt_of_mem (List.getElem_mem h)
  cases t with
  | mk a l =>
    simp only [S39.mk.sizeOf_spec]
    simp only at h1
    omega
/-! ### sets -/
/-- what a tree's set is, so deep at most, and whether it may be -/
def setV : Nat → Tr → Int × Bool
  | 0, _ => (0, false)
  | d + 1, t => match t.f1 with
    | [] => (shl .i64 1 (mx (Int.tmod t.f0 4) 0), decide (0 ≤ t.f0) && decide (t.f0 < 4))
    | [a, b] => if t.f0 = 0 then (Go.bits .or .i64 (setV d a).1 (setV d b).1, (setV d a).2 && (setV d b).2 && (Go.bits .and .i64 (setV d a).1 (setV d b).1 == 0)) else (0, false)
    | _ => (0, false)
theorem set_ev : ∀ (d : Nat) (t : Tr), d < 1000 → Ev (fun k => tree_set.f k t.f0 t.f1 (d : Int)) (setV d t)
  | 0, t, _ => by
    refine Ev.succ (g := fun k => tree_set.j0 k 0 true t.f0 t.f1) (Ev.succ (g := fun k => some (0, false)) (Ev.const _) fun k => ?_) fun k => ?_
    · simp only [tree_set.j0, if_true]
    · simp [tree_set.f]
  | d + 1, ⟨o, l⟩, hd => by
    have hne : ¬ (((d + 1 : Nat) : Int) = 0) := by omega
    have hw : wrap64 (((d + 1 : Nat) : Int) - 1) = (d : Int) := by rw [wrap_id (by omega) (by omega)]; omega
    rcases l with _ | ⟨a, _ | ⟨b, _ | ⟨c, l⟩⟩⟩
    · refine Ev.succ (g := fun k => tree_set.j0 k ((d + 1 : Nat) : Int) false o []) (Ev.succ (g := fun k => some (setV (d + 1) ⟨o, []⟩)) (Ev.const _) fun k => ?_) fun k => ?_
      · simp only [tree_set.j0, setV]
        by_cases h : o ≥ 0 <;> simp [h]
      · simp only [tree_set.f]
        rw [if_neg hne, if_pos (by simp), if_neg (by simp)]
    · refine Ev.succ (g := fun k => tree_set.j0 k ((d + 1 : Nat) : Int) true o [a]) (Ev.succ (g := fun k => some (setV (d + 1) ⟨o, [a]⟩)) (Ev.const _) fun k => ?_) fun k => ?_
      · simp only [tree_set.j0, setV, if_true]
      · simp only [tree_set.f]
        rw [if_neg hne, if_neg (by simp), if_neg (by simp)]
        rfl
    · by_cases ho : o = 0
      · have ha := set_ev d a (by omega)
        have hb := set_ev d b (by omega)
        refine Ev.succ (g := fun k => tree_set.j0 k ((d + 1 : Nat) : Int) false o [a, b]) (Ev.succ (g := fun k => ((tree_set.f k a.f0 a.f1 (d : Int)).bind fun x => (tree_set.f k b.f0 b.f1 (d : Int)).bind fun y => if x.2 = true then (if y.2 = true then (some (Go.bits .or .i64 x.1 y.1, ((Go.bits .and .i64 x.1 y.1) == 0))) else (some (Go.bits .or .i64 x.1 y.1, false))) else (some (Go.bits .or .i64 x.1 y.1, false)))) (Ev.bind ha (Ev.bind hb ?_)) fun k => ?_) fun k => ?_
        · refine Ev.of_eq (Ev.const (setV (d + 1) ⟨o, [a, b]⟩)) fun k => ?_
          simp only [setV]
          rw [if_pos ho]
          cases (setV d a).2 <;> cases (setV d b).2 <;> simp
        · simp only [tree_set.j0]
          have h1 : (1 : Int) < (([a, b] : List Tr).length : Int) := by simp
          rw [if_neg (by simp), if_neg (by simp), if_pos (by simp), hw]
          simp only [h1, if_true]
          rfl
        · simp only [tree_set.f]
          rw [if_neg hne, if_neg (by simp), if_pos (by simp)]
          simp [ho]
      · refine Ev.succ (g := fun k => tree_set.j0 k ((d + 1 : Nat) : Int) true o [a, b]) (Ev.succ (g := fun k => some (setV (d + 1) ⟨o, [a, b]⟩)) (Ev.const _) fun k => ?_) fun k => ?_
        · simp only [tree_set.j0, setV, if_true]
          rw [if_neg ho]
        · simp only [tree_set.f]
          rw [if_neg hne, if_neg (by simp), if_pos (by simp), show (o != 0) = true by simp [ho]]
    · refine Ev.succ (g := fun k => tree_set.j0 k ((d + 1 : Nat) : Int) true o (a :: b :: c :: l)) (Ev.succ (g := fun k => some (setV (d + 1) ⟨o, a :: b :: c :: l⟩)) (Ev.const _) fun k => ?_) fun k => ?_
      · simp only [tree_set.j0, setV, if_true]
      · simp only [tree_set.f]
        have h3 : ¬ (((a :: b :: c :: l).length : Int) = 2) := by simp only [List.length_cons]; omega
        have h4 : ¬ (((a :: b :: c :: l).length : Int) = 0) := by simp only [List.length_cons]; omega
        rw [if_neg hne, if_neg h4, if_neg h3]
        have h5 : ((((a :: b :: c :: l).length : Int)) != 2) = true := by simp only [bne_iff_ne]; exact h3
        rw [h5]
theorem may_ev (t : Tr) : Ev (fun k => tree_May.f k t.f0 t.f1) (setV 4 t).2 := by
  refine Ev.of_eq (Ev.bind (set_ev 4 t (by omega)) (h := fun k x => some x.2) (Ev.const _)) fun k => ?_
  rfl
theorem Set_ev (t : Tr) : Ev (fun k => tree_Set.f k t.f0 t.f1) (if (setV 4 t).2 = true then (setV 4 t).1 else 0) := by
  refine Ev.of_eq (Ev.bind (set_ev 4 t (by omega)) (h := fun k x => if x.2 = true then some x.1 else some 0) ?_) fun k => ?_
  · refine Ev.of_eq (Ev.const _) fun k => ?_
    split <;> rfl
  · rfl
/-- what a tree that came in is -/
inductive Wf : Tr → Prop where
  | mk (x : Tr) (h0 : -9223372036854775808 ≤ x.f0 ∧ x.f0 ≤ 9223372036854775807) (h1 : x.f1.length ≤ maxLen) (g1 : ∀ y ∈ x.f1, Wf y) : Wf x
/-! ### parts -/
theorem size_ev : ∀ (t : Tr) (n : Int), Wf t → ∃ r, Ev (fun k => roadbookref06_Size.f k t.f0 t.f1 n) r := by
  intro t n hwf
  have hparts : ∀ y ∈ t.f1, Wf y := by cases hwf; assumption
  have hlen' : t.f1.length ≤ 9223372036854775807 := by cases hwf; assumption
  have key : ∀ (m : Nat) (x : Int) (i : Nat), t.f1.length - i ≤ m → t.f1.length ≤ 9223372036854775807 → ∃ r, Ev (fun k => roadbookref06_Size.l0 k n x (i : Int) t.f0 t.f1) r := by
    intro m
    induction m with
    | zero =>
      intro x i hm hl
      refine ⟨x, Ev.succ (g := fun _ => some x) (Ev.const _) fun k => ?_⟩
      simp only [roadbookref06_Size.l0]
      rw [if_neg (by omega)]
    | succ m ih =>
      intro x i hm hl
      by_cases hi : i < t.f1.length
      · by_cases hx : x ≤ n
        · obtain ⟨r1, h1⟩ := size_ev t.f1[i] (wrap64 (n - x)) (hparts _ (List.getElem_mem hi))
          obtain ⟨r2, h2⟩ := ih (wrap64 (x + r1)) (i + 1) (by omega) hl
          refine ⟨r2, Ev.succ (g := fun k => (roadbookref06_Size.f k t.f1[i].f0 t.f1[i].f1 (wrap64 (n - x))).bind fun t194 => roadbookref06_Size.l0 k n (wrap64 (x + t194)) ((i + 1 : Nat) : Int) t.f0 t.f1) (Ev.bind h1 h2) fun k => ?_⟩
          simp only [roadbookref06_Size.l0]
          rw [if_pos (by omega), if_pos hx, if_pos (by omega), rd_nat _ _ hi, wrap_id (n := (i : Int) + 1) (by omega) (by omega)]
          rfl
        · refine ⟨x, Ev.succ (g := fun _ => some x) (Ev.const _) fun k => ?_⟩
          simp only [roadbookref06_Size.l0]
          rw [if_pos (by omega), if_neg hx]
      · refine ⟨x, Ev.succ (g := fun _ => some x) (Ev.const _) fun k => ?_⟩
        simp only [roadbookref06_Size.l0]
        rw [if_neg (by omega)]
  obtain ⟨r, h⟩ := key t.f1.length 1 0 (by omega) hlen'
  exact ⟨r, Ev.succ h fun k => by simp only [roadbookref06_Size.f]; rfl⟩
termination_by t => SizeOf.sizeOf t
decreasing_by exact sizeOf_part t _ hi
/-! ### sameness -/
theorem tr_ext {a b : Tr} : a = b ↔ a.f0 = b.f0 ∧ a.f1 = b.f1 := by
  constructor
  · rintro rfl; exact ⟨rfl, rfl⟩
  · intro h; rw [← tr_eta a, ← tr_eta b, h.1, h.2]
theorem same_ev (a b : Tr) : ∃ r, Ev (fun k => tree_Same.f k a.f0 a.f1 b.f0 b.f1) r ∧ (r = true ↔ a = b) := by
  by_cases h0 : a.f0 = b.f0
  · by_cases hl : a.f1.length = b.f1.length
    · have key : ∀ (m i : Nat), a.f1.length - i ≤ m → ∃ r, Ev (fun k => tree_Same.l0 k i a.f1 b.f1) r ∧ (r = true ↔ ∀ j, i ≤ j → a.f1[j]? = b.f1[j]?) := by
        intro m
        induction m with
        | zero =>
          intro i hm
          refine ⟨true, Ev.succ' ?_, ⟨fun _ j hj => ?_, fun _ => rfl⟩⟩
          · refine Ev.of_eq (Ev.const true) fun k => ?_
            simp only [tree_Same.l0]
            rw [if_neg (by omega)]
          · rw [List.getElem?_eq_none (by omega), List.getElem?_eq_none (by omega)]
        | succ m ih =>
          intro i hm
          by_cases hi : i < a.f1.length
          · have hi' : i < b.f1.length := by omega
            obtain ⟨r1, h1, e1⟩ := same_ev a.f1[i] b.f1[i]
            obtain ⟨r2, h2, e2⟩ := ih (i + 1) (by omega)
            refine ⟨r1 && r2, Ev.succ' ?_, ?_⟩
            · refine Ev.of_eq (Ev.bind h1 (h := fun k x => if x = true then tree_Same.l0 k (i + 1) a.f1 b.f1 else some false) ?_) fun k => ?_
              · cases r1 with
                | true => simpa using h2
                | false => simpa using Ev.const false
              · simp only [tree_Same.l0]
                rw [if_pos hi, rd_nat _ _ hi, rd_nat _ _ hi']
            · rw [Bool.and_eq_true, e1, e2]
              constructor
              · rintro ⟨p, q⟩ j hj
                by_cases hji : j = i
                · subst hji; rw [List.getElem?_eq_getElem hi, List.getElem?_eq_getElem hi', p]
                · exact q j (by omega)
              · intro p
                refine ⟨?_, fun j hj => p j (by omega)⟩
                have := p i (Nat.le_refl i)
                rw [List.getElem?_eq_getElem hi, List.getElem?_eq_getElem hi'] at this
                exact Option.some.inj this
          · refine ⟨true, Ev.succ' ?_, ⟨fun _ j hj => ?_, fun _ => rfl⟩⟩
            · refine Ev.of_eq (Ev.const true) fun k => ?_
              simp only [tree_Same.l0]
              rw [if_neg (by omega)]
            · rw [List.getElem?_eq_none (by omega), List.getElem?_eq_none (by omega)]
      obtain ⟨r, h, e⟩ := key a.f1.length 0 (by omega)
      refine ⟨r, Ev.succ' (Ev.of_eq h fun k => ?_), ?_⟩
      · simp only [tree_Same.f]
        rw [if_pos h0, if_pos hl]
      · rw [e, tr_ext]
        constructor
        · intro p; exact ⟨h0, List.ext_getElem? fun j => p j (Nat.zero_le j)⟩
        · rintro ⟨_, q⟩ j _; rw [q]
    · refine ⟨false, Ev.succ' (Ev.of_eq (Ev.const false) fun k => ?_), ⟨fun h => by simp at h, fun h => absurd (by rw [h]) hl⟩⟩
      simp only [tree_Same.f]
      rw [if_pos h0, if_neg hl]
  · refine ⟨false, Ev.succ' (Ev.of_eq (Ev.const false) fun k => ?_), ⟨fun h => by simp at h, fun h => absurd (by rw [h]) h0⟩⟩
    simp only [tree_Same.f]
    rw [if_neg h0]
termination_by SizeOf.sizeOf a
decreasing_by exact sizeOf_part a _ hi
theorem same_refl (a : Tr) : Ev (fun k => tree_Same.f k a.f0 a.f1 a.f0 a.f1) true := by
  obtain ⟨r, h, e⟩ := same_ev a a
  rw [e.2 rfl] at h
  exact h
end Go.Proofs.Ytdegbnjnbpjdfaa.T
