/- Part 14 of the proof: an abstract machine that runs the program's code over plain values, its soundness, and what the functions tell of plain values. Conditions: those in each theorem. -/
import Derived.Test.YtgebkpchpliahaaDoorA12
set_option linter.unusedSectionVars false
namespace Go.Cf
set_option linter.unusedVariables false
theorem merge_split {α : Type} (le : α → α → Bool) : ∀ (n : Nat) (s1 t1 s2 t2 : List α), s1.length + s2.length = n →
    (∀ x ∈ t1, ∀ y ∈ s2, le x y = false) → (∀ x ∈ s1, ∀ y ∈ t2, le x y = true) →
    List.merge (s1 ++ t1) (s2 ++ t2) le = List.merge s1 s2 le ++ List.merge t1 t2 le
  | n, [], t1, [], t2, h, h1, h2 => by simp
  | n, [], [], y :: s2, t2, h, h1, h2 => by simp
  | n + 1, [], x :: t1, y :: s2, t2, h, h1, h2 => by
    have hxy := h1 x (by simp) y (by simp)
    have ih := merge_split le n [] (x :: t1) s2 t2 (by simp at h ⊢; omega) (fun a ha b hb => h1 a ha b (by simp [hb])) (fun a ha => by simp at ha)
    simp only [List.nil_append, List.nil_merge] at ih ⊢
    rw [List.cons_append, List.cons_merge_cons, if_neg (by rw [hxy]; decide), ih]
    rfl
  | n, x :: s1, t1, [], [], h, h1, h2 => by simp
  | n + 1, x :: s1, t1, [], z :: t2, h, h1, h2 => by
    have hxz := h2 x (by simp) z (by simp)
    have ih := merge_split le n s1 t1 [] (z :: t2) (by simp at h ⊢; omega) (fun a ha b hb => by simp at hb) (fun a ha b hb => h2 a (by simp [ha]) b hb)
    simp only [List.nil_append, List.merge_right] at ih ⊢
    rw [List.cons_append, List.cons_merge_cons, if_pos hxz, ih]
    rfl
  | n + 1, x :: s1, t1, y :: s2, t2, h, h1, h2 => by
    simp only [List.cons_append, List.cons_merge_cons]
    by_cases hxy : le x y = true
    · rw [if_pos hxy, if_pos hxy]
      have ih := merge_split le n s1 t1 (y :: s2) t2 (by simp at h ⊢; omega) h1 (fun a ha b hb => h2 a (by simp [ha]) b hb)
      rw [← List.cons_append, ih]; rfl
    · rw [if_neg hxy, if_neg hxy]
      have ih := merge_split le n (x :: s1) t1 s2 t2 (by simp at h ⊢; omega) (fun a ha b hb => h1 a ha b (by simp [hb])) h2
      rw [← List.cons_append, ih]; rfl
  | 0, [], x :: t1, y :: s2, t2, h, h1, h2 => by simp at h
  | 0, x :: s1, t1, [], z :: t2, h, h1, h2 => by simp at h
  | 0, x :: s1, t1, y :: s2, t2, h, h1, h2 => by simp at h
theorem merge_one_left {α : Type} (le : α → α → Bool) (x : α) (s t : List α) (hs : ∀ y ∈ s, le x y = false) (ht : ∀ y ∈ t, le x y = true) : List.merge [x] (s ++ t) le = s ++ x :: t := by
  have h := merge_split le s.length [] [x] s t (by simp) (fun a ha b hb => by simp at ha; subst ha; exact hs b hb) (fun a ha => by simp at ha)
  rw [List.nil_append, List.nil_merge] at h
  rw [h]
  congr 1
  cases t with
  | nil => simp
  | cons z t =>
    rw [List.cons_merge_cons, if_pos (ht z (by simp)), List.nil_merge]
theorem merge_one_right {α : Type} (le : α → α → Bool) (y : α) (s t : List α) (hs : ∀ x ∈ s, le x y = true) (ht : ∀ x ∈ t, le x y = false) : List.merge (s ++ t) [y] le = s ++ y :: t := by
  have h := merge_split le s.length s t [] [y] (by simp) (fun a ha b hb => by simp at hb) (fun a ha b hb => by simp at hb; subst hb; exact hs a ha)
  rw [List.nil_append, List.merge_right] at h
  rw [h]
  congr 1
  cases t with
  | nil => simp
  | cons z t =>
    rw [List.cons_merge_cons, if_neg (by rw [ht z (by simp)]; decide), List.merge_right]
def sw {α : Type} (l : List α) (i j : Nat) : List α := match l[i]?, l[j]? with | some x, some y => (l.set i y).set j x | _, _ => l
theorem sw_at {α : Type} (P M Q : List α) (x y : α) : sw (P ++ x :: (M ++ y :: Q)) P.length (P.length + 1 + M.length) = P ++ y :: (M ++ x :: Q) := by
  have h1 : (P ++ x :: (M ++ y :: Q))[P.length]? = some x := by simp
  have h2 : (P ++ x :: (M ++ y :: Q))[P.length + 1 + M.length]? = some y := by
    rw [List.getElem?_append_right (by omega), show P.length + 1 + M.length - P.length = M.length + 1 by omega, List.getElem?_cons_succ, List.getElem?_append_right (Nat.le_refl _)]
    simp
  unfold sw
  rw [h1, h2]
  simp only
  rw [List.set_append_right _ _ (Nat.le_refl _), Nat.sub_self, List.set_cons_zero, List.set_append_right _ _ (by omega), show P.length + 1 + M.length - P.length = M.length + 1 by omega, List.set_cons_succ, List.set_append_right _ _ (Nat.le_refl _), Nat.sub_self, List.set_cons_zero]
def swapN {α : Type} : Nat → Nat → Nat → List α → List α
  | 0, _, _, l => l
  | n + 1, a, b, l => swapN n (a + 1) (b + 1) (sw l a b)
theorem swapN_spec {α : Type} : ∀ (n : Nat) (P A M B Q : List α), A.length = n → B.length = n → swapN n P.length (P.length + n + M.length) (P ++ (A ++ (M ++ (B ++ Q)))) = P ++ (B ++ (M ++ (A ++ Q)))
  | 0, P, A, M, B, Q, hA, hB => by
    have h1 : A = [] := List.length_eq_zero_iff.1 hA
    have h2 : B = [] := List.length_eq_zero_iff.1 hB
    subst h1; subst h2; rfl
  | n + 1, P, [], M, B, Q, hA, hB => by simp at hA
  | n + 1, P, x :: A, M, [], Q, hA, hB => by simp at hB
  | n + 1, P, x :: A, M, y :: B, Q, hA, hB => by
    have hA' : A.length = n := by simpa using hA
    have hB' : B.length = n := by simpa using hB
    have e := sw_at P (A ++ M) (B ++ Q) x y
    rw [List.append_assoc, List.append_assoc] at e
    have ih := swapN_spec n (P ++ [y]) A (M ++ [x]) B Q hA' hB'
    simp only [List.append_assoc, List.length_append, List.length_singleton, List.cons_append, List.nil_append] at ih e ⊢
    unfold swapN
    rw [show P.length + (n + 1) + M.length = P.length + 1 + (A.length + M.length) by omega, e]
    rw [show P.length + 1 + (A.length + M.length) + 1 = P.length + 1 + n + (M.length + 1) by omega]
    exact ih
def rotG {α : Type} (m : Nat) : Nat → Nat → Nat → List α → List α
  | 0, _, _, l => l
  | f + 1, i, j, l => if i = j then swapN i (m - i) m l else if i > j then rotG m f (i - j) j (swapN j (m - i) m l) else rotG m f i (j - i) (swapN i (m - i) (m + j - i) l)
theorem rotG_spec {α : Type} : ∀ (f i j : Nat) (P X Y Q : List α), X.length = i → Y.length = j → 0 < i → 0 < j → i + j ≤ f →
    rotG (P.length + i) f i j (P ++ (X ++ (Y ++ Q))) = P ++ (Y ++ (X ++ Q))
  | 0, i, j, P, X, Y, Q, hX, hY, hi, hj, hf => by omega
  | f + 1, i, j, P, X, Y, Q, hX, hY, hi, hj, hf => by
    unfold rotG
    by_cases e : i = j
    · rw [if_pos e]
      subst e
      have h := swapN_spec i P X [] Y Q hX hY
      simp only [List.nil_append, List.length_nil, Nat.add_zero] at h
      rw [show P.length + i - i = P.length by omega]
      exact h
    · rw [if_neg e]
      by_cases g : i > j
      · rw [if_pos g]
        obtain ⟨X1, X2, rfl, h1⟩ : ∃ X1 X2, X = X1 ++ X2 ∧ X1.length = j := ⟨X.take j, X.drop j, (List.take_append_drop j X).symm, by simp; omega⟩
        have h2 : X2.length = i - j := by simp at hX; omega
        have h := swapN_spec j P X1 X2 Y Q h1 hY
        rw [show P.length + j + X2.length = P.length + i by omega] at h
        rw [show P.length + i - i = P.length by omega]
        simp only [List.append_assoc] at h ⊢
        rw [h]
        have ih := rotG_spec f (i - j) j (P ++ Y) X2 X1 Q h2 h1 (by omega) hj (by omega)
        simp only [List.append_assoc, List.length_append] at ih
        rw [show P.length + i = P.length + Y.length + (i - j) by omega]
        exact ih
      · rw [if_neg g]
        obtain ⟨Y1, Y2, rfl, h1⟩ : ∃ Y1 Y2, Y = Y1 ++ Y2 ∧ Y1.length = j - i := ⟨Y.take (j - i), Y.drop (j - i), (List.take_append_drop (j - i) Y).symm, by simp; omega⟩
        have h2 : Y2.length = i := by simp at hY; omega
        have h := swapN_spec i P X Y1 Y2 Q hX h2
        rw [show P.length + i + Y1.length = P.length + i + j - i by omega] at h
        rw [show P.length + i - i = P.length by omega]
        simp only [List.append_assoc] at h ⊢
        rw [h]
        have ih := rotG_spec f i (j - i) P Y2 Y1 (X ++ Q) h2 h1 hi (by omega) (by omega)
        exact ih
def bs (q : Nat → Bool) : Nat → Nat → Nat → Nat
  | 0, lo, _ => lo
  | f + 1, lo, hi => if lo < hi then (if q ((lo + hi) / 2) then bs q f ((lo + hi) / 2 + 1) hi else bs q f lo ((lo + hi) / 2)) else lo
theorem bs_spec (q : Nat → Bool) : ∀ (f lo hi : Nat), hi - lo ≤ f → lo ≤ hi → (∀ c d, lo ≤ c → c ≤ d → d < hi → q d = true → q c = true) →
    lo ≤ bs q f lo hi ∧ bs q f lo hi ≤ hi ∧ (∀ c, lo ≤ c → c < bs q f lo hi → q c = true) ∧ ∀ c, bs q f lo hi ≤ c → c < hi → q c = false
  | 0, lo, hi, h, hle, hm => by
    unfold bs
    exact ⟨Nat.le_refl _, hle, fun c h1 h2 => by omega, fun c h1 h2 => by omega⟩
  | f + 1, lo, hi, h, hle, hm => by
    unfold bs
    by_cases hlt : lo < hi
    · rw [if_pos hlt]
      by_cases hq : q ((lo + hi) / 2) = true
      · rw [if_pos hq]
        obtain ⟨k1, k2, k3, k4⟩ := bs_spec q f ((lo + hi) / 2 + 1) hi (by omega) (by omega) (fun c d h1 h2 h3 h4 => hm c d (by omega) h2 h3 h4)
        refine ⟨by omega, k2, fun c h1 h2 => ?_, k4⟩
        by_cases hc : c ≤ (lo + hi) / 2
        · exact hm c _ h1 hc (by omega) hq
        · exact k3 c (by omega) h2
      · rw [if_neg hq]
        obtain ⟨k1, k2, k3, k4⟩ := bs_spec q f lo ((lo + hi) / 2) (by omega) (by omega) (fun c d h1 h2 h3 h4 => hm c d h1 h2 (by omega) h4)
        refine ⟨k1, by omega, k3, fun c h1 h2 => ?_⟩
        by_cases hc : c < (lo + hi) / 2
        · exact k4 c h1 hc
        · cases hqc : q c with
          | false => rfl
          | true => exact absurd (hm _ c (by omega) (by omega) h2 hqc) hq
    · rw [if_neg hlt]
      exact ⟨Nat.le_refl _, hle, fun c h1 h2 => by omega, fun c h1 h2 => by omega⟩
theorem sw_at' {α : Type} (P M Q : List α) (x y : α) : sw (P ++ x :: (M ++ y :: Q)) (P.length + 1 + M.length) P.length = P ++ y :: (M ++ x :: Q) := by
  have h1 : (P ++ x :: (M ++ y :: Q))[P.length]? = some x := by simp
  have h2 : (P ++ x :: (M ++ y :: Q))[P.length + 1 + M.length]? = some y := by
    rw [List.getElem?_append_right (by omega), show P.length + 1 + M.length - P.length = M.length + 1 by omega, List.getElem?_cons_succ, List.getElem?_append_right (Nat.le_refl _)]
    simp
  unfold sw
  rw [h1, h2]
  simp only
  rw [List.set_append_right _ _ (by omega), show P.length + 1 + M.length - P.length = M.length + 1 by omega, List.set_cons_succ, List.set_append_right _ _ (Nat.le_refl _), Nat.sub_self, List.set_cons_zero, List.set_append_right _ _ (Nat.le_refl _), Nat.sub_self, List.set_cons_zero]
def mvR {α : Type} : Nat → Nat → List α → List α
  | 0, _, l => l
  | n + 1, k, l => mvR n (k + 1) (sw l k (k + 1))
theorem mvR_spec {α : Type} : ∀ (n : Nat) (P S Q : List α) (x : α), S.length = n → mvR n P.length (P ++ x :: (S ++ Q)) = P ++ (S ++ x :: Q)
  | 0, P, S, Q, x, h => by
    have h1 : S = [] := List.length_eq_zero_iff.1 h
    subst h1; rfl
  | n + 1, P, [], Q, x, h => by simp at h
  | n + 1, P, y :: S, Q, x, h => by
    have e := sw_at P [] (S ++ Q) x y
    simp only [List.nil_append, List.length_nil, Nat.add_zero] at e
    have ih := mvR_spec n (P ++ [y]) S Q x (by simpa using h)
    simp only [List.append_assoc, List.length_append, List.length_singleton, List.cons_append, List.nil_append] at ih ⊢
    unfold mvR
    rw [e]
    exact ih
def mvL {α : Type} : Nat → Nat → List α → List α
  | 0, _, l => l
  | n + 1, k, l => mvL n (k - 1) (sw l k (k - 1))
theorem mvL_spec {α : Type} : ∀ (n : Nat) (P S Q : List α) (y : α), S.length = n → mvL n (P.length + n) (P ++ (S ++ y :: Q)) = P ++ y :: (S ++ Q)
  | 0, P, S, Q, y, h => by
    have h1 : S = [] := List.length_eq_zero_iff.1 h
    subst h1; rfl
  | n + 1, P, S, Q, y, h => by
    obtain ⟨S', x, rfl⟩ : ∃ S' x, S = S' ++ [x] := ⟨S.dropLast, S.getLast (by intro e; subst e; simp at h), (List.dropLast_concat_getLast _).symm⟩
    have hS : S'.length = n := by simpa using h
    have e := sw_at' (P ++ S') [] Q x y
    simp only [List.nil_append, List.length_nil, Nat.add_zero, List.length_append, List.append_assoc, hS] at e
    have ih := mvL_spec n P S' (x :: Q) y hS
    simp only [List.append_assoc, List.cons_append, List.nil_append] at ih ⊢
    unfold mvL
    rw [show P.length + (n + 1) - 1 = P.length + n by omega, show P.length + (n + 1) = P.length + n + 1 by omega, e]
    exact ih
section
variable {α : Type} (le : α → α → Bool)
def leO (l : List α) (i j : Nat) : Bool := match l[i]?, l[j]? with | some x, some y => le x y | _, _ => true
def symF : Nat → Nat → Nat → Nat → List α → List α
  | 0, _, _, _, l => l
  | f + 1, a, m, b, l =>
    if m - a = 1 then mvR (bs (fun h => !leO le l a h) (b - m) m b - 1 - a) a l
    else if b - m = 1 then mvL (m - bs (fun h => leO le l h m) (m - a) a m) m l
    else
      let mid := (a + b) / 2
      let n := mid + m
      let s := if m > mid then n - b else a
      let r := if m > mid then mid else m
      let st := bs (fun c => leO le l c (n - 1 - c)) (r - s) s r
      let en := n - st
      let l1 := if st < m ∧ m < en then rotG m (en - st) (m - st) (en - m) l else l
      let l2 := if a < st ∧ st < mid then symF f a st mid l1 else l1
      if mid < en ∧ en < b then symF f mid en b l2 else l2
theorem sorted_get {le : α → α → Bool} (hr : ∀ x, le x x = true) {X : List α} (hX : X.Pairwise fun x y => le x y = true) {i j : Nat} {x y : α} (hi : X[i]? = some x) (hj : X[j]? = some y) (hij : i ≤ j) : le x y = true := by
  rcases Nat.lt_or_eq_of_le hij with h | h
  · obtain ⟨h1, rfl⟩ := List.getElem?_eq_some_iff.1 hi
    obtain ⟨h2, rfl⟩ := List.getElem?_eq_some_iff.1 hj
    exact List.pairwise_iff_getElem.1 hX i j h1 h2 h
  · subst h
    rw [hi] at hj; cases hj; exact hr _
theorem merge_nil_left (Y : List α) : List.merge [] Y le = Y := by simp
theorem merge_nil_right (X : List α) : List.merge X [] le = X := by simp
theorem merge_len (X Y : List α) : (List.merge X Y le).length = X.length + Y.length := by
  rw [(List.merge_perm_append (le := le) (xs := X) (ys := Y)).length_eq, List.length_append]
theorem symF_spec (hr : ∀ x, le x x = true) (ht : ∀ x y z, le x y = true → le y z = true → le x z = true) : ∀ (f : Nat) (P X Y Q : List α), X ≠ [] → Y ≠ [] → X.Pairwise (fun x y => le x y = true) → Y.Pairwise (fun x y => le x y = true) → X.length + Y.length ≤ f →
    symF le f P.length (P.length + X.length) (P.length + X.length + Y.length) (P ++ (X ++ (Y ++ Q))) = P ++ (List.merge X Y le ++ Q)
  | 0, P, X, Y, Q, hX, hY, sX, sY, hf => by
    have := List.length_pos_iff.2 hX; omega
  | f + 1, P, X, Y, Q, hX, hY, sX, sY, hf => by
    have lX := List.length_pos_iff.2 hX
    have lY := List.length_pos_iff.2 hY
    have gX : ∀ i, i < X.length → (P ++ (X ++ (Y ++ Q)))[P.length + i]? = X[i]? := fun i hi => by
      rw [List.getElem?_append_right (by omega), show P.length + i - P.length = i by omega, List.getElem?_append_left hi]
    have gY : ∀ i, i < Y.length → (P ++ (X ++ (Y ++ Q)))[P.length + X.length + i]? = Y[i]? := fun i hi => by
      rw [List.getElem?_append_right (by omega), show P.length + X.length + i - P.length = X.length + i by omega, List.getElem?_append_right (by omega), show X.length + i - X.length = i by omega, List.getElem?_append_left hi]
    have q0 : ∀ i j x y, X[i]? = some x → Y[j]? = some y → leO le (P ++ (X ++ (Y ++ Q))) (P.length + i) (P.length + X.length + j) = le x y := fun i j x y hi hj => by
      have h1 := gX i (List.getElem?_eq_some_iff.1 hi).1
      have h2 := gY j (List.getElem?_eq_some_iff.1 hj).1
      unfold leO
      rw [h1, h2, hi, hj]
    unfold symF
    by_cases e1 : X.length = 1
    · rw [if_pos (by omega)]
      obtain ⟨x, rfl⟩ := List.length_eq_one_iff.1 e1
      have qv : ∀ h y, P.length + 1 ≤ h → Y[h - (P.length + 1)]? = some y → leO le (P ++ ([x] ++ (Y ++ Q))) P.length h = le x y := fun h y h1 h2 => by
        have := q0 0 (h - (P.length + 1)) x y rfl h2
        rw [show P.length + [x].length + (h - (P.length + 1)) = h by simp; omega] at this
        exact this
      have bsp := bs_spec (fun h => !leO le (P ++ ([x] ++ (Y ++ Q))) P.length h) (P.length + [x].length + Y.length - (P.length + [x].length)) (P.length + [x].length) (P.length + [x].length + Y.length) (Nat.le_refl _) (by omega) (fun c d h1 h2 h3 h4 => by
        simp only [List.length_singleton] at h1 h3
        have cl : c - (P.length + 1) < Y.length := by omega
        have dl : d - (P.length + 1) < Y.length := by omega
        have v1 := qv c _ h1 (List.getElem?_eq_getElem cl)
        have v2 := qv d _ (by omega) (List.getElem?_eq_getElem dl)
        have h4 : (!leO le (P ++ ([x] ++ (Y ++ Q))) P.length d) = true := h4
        show (!leO le (P ++ ([x] ++ (Y ++ Q))) P.length c) = true
        rw [v2] at h4
        rw [v1]
        have k := sorted_get hr sY (List.getElem?_eq_getElem cl) (List.getElem?_eq_getElem dl) (by omega)
        cases hle : le x Y[c - (P.length + 1)] with
        | false => rfl
        | true => rw [ht _ _ _ hle k] at h4; cases h4)
      generalize bs (fun h => !leO le (P ++ ([x] ++ (Y ++ Q))) P.length h) (P.length + [x].length + Y.length - (P.length + [x].length)) (P.length + [x].length) (P.length + [x].length + Y.length) = i at bsp ⊢
      simp only [List.length_singleton] at bsp
      obtain ⟨b1, b2, b3, b4⟩ := bsp
      obtain ⟨Y1, Y2, hYe, hY1⟩ : ∃ Y1 Y2, Y = Y1 ++ Y2 ∧ Y1.length = i - (P.length + 1) := ⟨Y.take (i - (P.length + 1)), Y.drop (i - (P.length + 1)), (List.take_append_drop _ Y).symm, by simp; omega⟩
      have lY2 : Y1.length + Y2.length = Y.length := by rw [hYe]; simp
      have d1 : ∀ y ∈ Y1, le x y = false := fun y hy => by
        obtain ⟨j, hj, ej⟩ := List.getElem_of_mem hy
        have g : Y[j]? = some y := by rw [hYe, List.getElem?_append_left hj, ← ej]; exact List.getElem?_eq_getElem hj
        have v := qv (P.length + 1 + j) y (by omega) (by rw [show P.length + 1 + j - (P.length + 1) = j by omega]; exact g)
        have h : (!leO le (P ++ ([x] ++ (Y ++ Q))) P.length (P.length + 1 + j)) = true := b3 (P.length + 1 + j) (by omega) (by omega)
        rw [v] at h
        simpa using h
      have d2 : ∀ y ∈ Y2, le x y = true := fun y hy => by
        obtain ⟨j, hj, ej⟩ := List.getElem_of_mem hy
        have g : Y[Y1.length + j]? = some y := by rw [hYe, List.getElem?_append_right (by omega), show Y1.length + j - Y1.length = j by omega, ← ej]; exact List.getElem?_eq_getElem hj
        have v := qv (P.length + 1 + (Y1.length + j)) y (by omega) (by rw [show P.length + 1 + (Y1.length + j) - (P.length + 1) = Y1.length + j by omega]; exact g)
        have h : (!leO le (P ++ ([x] ++ (Y ++ Q))) P.length (P.length + 1 + (Y1.length + j))) = false := b4 (P.length + 1 + (Y1.length + j)) (by omega) (by omega)
        rw [v] at h
        simpa using h
      have hm := merge_one_left le x Y1 Y2 d1 d2
      have hv := mvR_spec (i - 1 - P.length) P Y1 (Y2 ++ Q) x (by omega)
      rw [hYe, hm]
      simp only [List.append_assoc, List.cons_append, List.nil_append] at hv ⊢
      exact hv
    · rw [if_neg (by omega)]
      by_cases e2 : Y.length = 1
      · rw [if_pos (by omega)]
        obtain ⟨y, rfl⟩ := List.length_eq_one_iff.1 e2
        have qv : ∀ h x, P.length ≤ h → X[h - P.length]? = some x → leO le (P ++ (X ++ ([y] ++ Q))) h (P.length + X.length) = le x y := fun h x h1 h2 => by
          have := q0 (h - P.length) 0 x y h2 rfl
          rw [show P.length + (h - P.length) = h by omega] at this
          exact this
        have bsp := bs_spec (fun h => leO le (P ++ (X ++ ([y] ++ Q))) h (P.length + X.length)) (P.length + X.length - P.length) P.length (P.length + X.length) (Nat.le_refl _) (by omega) (fun c d h1 h2 h3 h4 => by
          have cl : c - P.length < X.length := by omega
          have dl : d - P.length < X.length := by omega
          have v1 := qv c _ h1 (List.getElem?_eq_getElem cl)
          have v2 := qv d _ (by omega) (List.getElem?_eq_getElem dl)
          have h4 : leO le (P ++ (X ++ ([y] ++ Q))) d (P.length + X.length) = true := h4
          show leO le (P ++ (X ++ ([y] ++ Q))) c (P.length + X.length) = true
          rw [v2] at h4
          rw [v1]
          exact ht _ _ _ (sorted_get hr sX (List.getElem?_eq_getElem cl) (List.getElem?_eq_getElem dl) (by omega)) h4)
        generalize bs (fun h => leO le (P ++ (X ++ ([y] ++ Q))) h (P.length + X.length)) (P.length + X.length - P.length) P.length (P.length + X.length) = i at bsp ⊢
        obtain ⟨b1, b2, b3, b4⟩ := bsp
        obtain ⟨X1, X2, hXe, hX1⟩ : ∃ X1 X2, X = X1 ++ X2 ∧ X1.length = i - P.length := ⟨X.take (i - P.length), X.drop (i - P.length), (List.take_append_drop _ X).symm, by simp; omega⟩
        have lX2 : X1.length + X2.length = X.length := by rw [hXe]; simp
        have d1 : ∀ x ∈ X1, le x y = true := fun x hx => by
          obtain ⟨j, hj, ej⟩ := List.getElem_of_mem hx
          have g : X[j]? = some x := by rw [hXe, List.getElem?_append_left hj, ← ej]; exact List.getElem?_eq_getElem hj
          have v := qv (P.length + j) x (by omega) (by rw [show P.length + j - P.length = j by omega]; exact g)
          have h : leO le (P ++ (X ++ ([y] ++ Q))) (P.length + j) (P.length + X.length) = true := b3 (P.length + j) (by omega) (by omega)
          rw [v] at h; exact h
        have d2 : ∀ x ∈ X2, le x y = false := fun x hx => by
          obtain ⟨j, hj, ej⟩ := List.getElem_of_mem hx
          have g : X[X1.length + j]? = some x := by rw [hXe, List.getElem?_append_right (by omega), show X1.length + j - X1.length = j by omega, ← ej]; exact List.getElem?_eq_getElem hj
          have v := qv (P.length + (X1.length + j)) x (by omega) (by rw [show P.length + (X1.length + j) - P.length = X1.length + j by omega]; exact g)
          have h : leO le (P ++ (X ++ ([y] ++ Q))) (P.length + (X1.length + j)) (P.length + X.length) = false := b4 (P.length + (X1.length + j)) (by omega) (by omega)
          rw [v] at h; exact h
        have hm := merge_one_right le y X1 X2 d1 d2
        have hv := mvL_spec (P.length + X.length - i) (P ++ X1) X2 Q y (by omega)
        rw [List.length_append, show P.length + X1.length + (P.length + X.length - i) = P.length + X.length by omega] at hv
        generalize hN : P.length + X.length = N at hv ⊢
        rw [hXe, hm]
        simp only [List.append_assoc, List.cons_append, List.nil_append] at hv ⊢
        exact hv
      · rw [if_neg (by omega)]
        simp only
        generalize hmid : (P.length + (P.length + X.length + Y.length)) / 2 = mid
        generalize hs : (if P.length + X.length > mid then mid + (P.length + X.length) - (P.length + X.length + Y.length) else P.length) = s
        generalize hrr : (if P.length + X.length > mid then mid else P.length + X.length) = r
        have hsr : s ≤ r ∧ P.length ≤ s ∧ r ≤ P.length + X.length ∧ r ≤ mid ∧ (s = P.length ∨ s + (P.length + X.length + Y.length) = mid + (P.length + X.length)) ∧ (r = mid ∨ r = P.length + X.length) ∧ mid + (P.length + X.length) ≤ s + (P.length + X.length + Y.length) := by
          rw [← hs, ← hrr]
          split <;> omega
        obtain ⟨s1, s2, s3, s4, s5, s6, s7⟩ := hsr
        have qv : ∀ c x y, P.length ≤ c → c < P.length + X.length → X[c - P.length]? = some x → Y[mid - 1 - c]? = some y → c < mid → leO le (P ++ (X ++ (Y ++ Q))) c (mid + (P.length + X.length) - 1 - c) = le x y := fun c x y h1 h2 h3 h4 h5 => by
          have := q0 (c - P.length) (mid - 1 - c) x y h3 h4
          rw [show P.length + (c - P.length) = c by omega, show P.length + X.length + (mid - 1 - c) = mid + (P.length + X.length) - 1 - c by omega] at this
          exact this
        have bsp := bs_spec (fun c => leO le (P ++ (X ++ (Y ++ Q))) c (mid + (P.length + X.length) - 1 - c)) (r - s) s r (Nat.le_refl _) s1 (fun c d h1 h2 h3 h4 => by
          have c1 : c - P.length < X.length := by omega
          have d1 : d - P.length < X.length := by omega
          have c2 : mid - 1 - c < Y.length := by omega
          have d2 : mid - 1 - d < Y.length := by omega
          have v1 := qv c _ _ (by omega) (by omega) (List.getElem?_eq_getElem c1) (List.getElem?_eq_getElem c2) (by omega)
          have v2 := qv d _ _ (by omega) (by omega) (List.getElem?_eq_getElem d1) (List.getElem?_eq_getElem d2) (by omega)
          have h4 : leO le (P ++ (X ++ (Y ++ Q))) d (mid + (P.length + X.length) - 1 - d) = true := h4
          show leO le (P ++ (X ++ (Y ++ Q))) c (mid + (P.length + X.length) - 1 - c) = true
          rw [v2] at h4
          rw [v1]
          have k1 := sorted_get hr sX (List.getElem?_eq_getElem c1) (List.getElem?_eq_getElem d1) (by omega)
          have k2 := sorted_get hr sY (List.getElem?_eq_getElem d2) (List.getElem?_eq_getElem c2) (by omega)
          exact ht _ _ _ (ht _ _ _ k1 h4) k2)
        generalize bs (fun c => leO le (P ++ (X ++ (Y ++ Q))) c (mid + (P.length + X.length) - 1 - c)) (r - s) s r = st at bsp ⊢
        obtain ⟨b1, b2, b3, b4⟩ := bsp
        obtain ⟨X1, X2, hXe, hX1⟩ : ∃ X1 X2, X = X1 ++ X2 ∧ X1.length = st - P.length := ⟨X.take (st - P.length), X.drop (st - P.length), (List.take_append_drop _ X).symm, by simp; omega⟩
        obtain ⟨Y1, Y2, hYe, hY1⟩ : ∃ Y1 Y2, Y = Y1 ++ Y2 ∧ Y1.length = mid - st := ⟨Y.take (mid - st), Y.drop (mid - st), (List.take_append_drop _ Y).symm, by simp; omega⟩
        have lX2 : X1.length + X2.length = X.length := by rw [hXe]; simp
        have lY2 : Y1.length + Y2.length = Y.length := by rw [hYe]; simp
        have getX2 : ∀ i x, X2[i]? = some x → X[st - P.length + i]? = some x := fun i x h => by
          rw [hXe, List.getElem?_append_right (by omega), show st - P.length + i - X1.length = i by omega]; exact h
        have getX1 : ∀ i x, X1[i]? = some x → X[i]? = some x := fun i x h => by
          have := (List.getElem?_eq_some_iff.1 h).1
          rw [hXe, List.getElem?_append_left this]; exact h
        have getY2 : ∀ i x, Y2[i]? = some x → Y[mid - st + i]? = some x := fun i x h => by
          rw [hYe, List.getElem?_append_right (by omega), show mid - st + i - Y1.length = i by omega]; exact h
        have getY1 : ∀ i x, Y1[i]? = some x → Y[i]? = some x := fun i x h => by
          have := (List.getElem?_eq_some_iff.1 h).1
          rw [hYe, List.getElem?_append_left this]; exact h
        have c1 : ∀ x ∈ X2, ∀ y ∈ Y1, le x y = false := fun x hx y hy => by
          obtain ⟨i, hi, ei⟩ := List.getElem_of_mem hx
          obtain ⟨j, hj, ej⟩ := List.getElem_of_mem hy
          have gi := getX2 i x (by rw [← ei]; exact List.getElem?_eq_getElem hi)
          have gj := getY1 j y (by rw [← ej]; exact List.getElem?_eq_getElem hj)
          have h1 : st - P.length < X.length := by omega
          have h2 : mid - 1 - st < Y.length := by omega
          have hq := b4 st (Nat.le_refl _) (by omega)
          have v := qv st _ _ (by omega) (by omega) (List.getElem?_eq_getElem h1) (List.getElem?_eq_getElem h2) (by omega)
          have hq : leO le (P ++ (X ++ (Y ++ Q))) st (mid + (P.length + X.length) - 1 - st) = false := hq
          rw [v] at hq
          cases hle : le x y with
          | false => rfl
          | true =>
            have k1 := sorted_get hr sX (List.getElem?_eq_getElem h1) gi (by omega)
            have k2 := sorted_get hr sY gj (List.getElem?_eq_getElem h2) (by omega)
            rw [ht _ _ _ (ht _ _ _ k1 hle) k2] at hq; cases hq
        have c2 : ∀ x ∈ X1, ∀ y ∈ Y2, le x y = true := fun x hx y hy => by
          obtain ⟨i, hi, ei⟩ := List.getElem_of_mem hx
          obtain ⟨j, hj, ej⟩ := List.getElem_of_mem hy
          have gi := getX1 i x (by rw [← ei]; exact List.getElem?_eq_getElem hi)
          have gj := getY2 j y (by rw [← ej]; exact List.getElem?_eq_getElem hj)
          have h1 : st - 1 - P.length < X.length := by omega
          have h2 : mid - 1 - (st - 1) < Y.length := by omega
          have hq := b3 (st - 1) (by omega) (by omega)
          have v := qv (st - 1) _ _ (by omega) (by omega) (List.getElem?_eq_getElem h1) (List.getElem?_eq_getElem h2) (by omega)
          have hq : leO le (P ++ (X ++ (Y ++ Q))) (st - 1) (mid + (P.length + X.length) - 1 - (st - 1)) = true := hq
          rw [v] at hq
          have k1 := sorted_get hr sX gi (List.getElem?_eq_getElem h1) (by omega)
          have k2 := sorted_get hr sY (List.getElem?_eq_getElem h2) gj (by omega)
          exact ht _ _ _ (ht _ _ _ k1 hq) k2
        have hsplit := merge_split le _ X1 X2 Y1 Y2 rfl c1 c2
        have sX1 : X1.Pairwise fun x y => le x y = true := (List.pairwise_append.1 (hXe ▸ sX)).1
        have sX2 : X2.Pairwise fun x y => le x y = true := (List.pairwise_append.1 (hXe ▸ sX)).2.1
        have sY1 : Y1.Pairwise fun x y => le x y = true := (List.pairwise_append.1 (hYe ▸ sY)).1
        have sY2 : Y2.Pairwise fun x y => le x y = true := (List.pairwise_append.1 (hYe ▸ sY)).2.1
        have l1 : (if st < P.length + X.length ∧ P.length + X.length < mid + (P.length + X.length) - st then rotG (P.length + X.length) (mid + (P.length + X.length) - st - st) (P.length + X.length - st) (mid + (P.length + X.length) - st - (P.length + X.length)) (P ++ (X ++ (Y ++ Q))) else P ++ (X ++ (Y ++ Q))) = P ++ (X1 ++ (Y1 ++ (X2 ++ (Y2 ++ Q)))) := by
          by_cases hc : st < P.length + X.length ∧ P.length + X.length < mid + (P.length + X.length) - st
          · rw [if_pos hc]
            have h := rotG_spec (mid + (P.length + X.length) - st - st) (P.length + X.length - st) (mid + (P.length + X.length) - st - (P.length + X.length)) (P ++ X1) X2 Y1 (Y2 ++ Q) (by omega) (by omega) (by omega) (by omega) (by omega)
            rw [List.length_append, show P.length + X1.length + (P.length + X.length - st) = P.length + X.length by omega] at h
            simp only [List.append_assoc] at h
            have e : P ++ (X ++ (Y ++ Q)) = P ++ (X1 ++ (X2 ++ (Y1 ++ (Y2 ++ Q)))) := by rw [hXe, hYe]; simp
            rw [e, h]
          · rw [if_neg hc]
            rw [hXe, hYe]
            have : X2 = [] ∨ Y1 = [] := by
              by_cases h1 : st < P.length + X.length
              · right; apply List.length_eq_zero_iff.1; omega
              · left; apply List.length_eq_zero_iff.1; omega
            rcases this with h | h <;> subst h <;> simp
        rw [l1]
        have l2 : (if P.length < st ∧ st < mid then symF le f P.length st mid (P ++ (X1 ++ (Y1 ++ (X2 ++ (Y2 ++ Q))))) else P ++ (X1 ++ (Y1 ++ (X2 ++ (Y2 ++ Q))))) = P ++ (List.merge X1 Y1 le ++ (X2 ++ (Y2 ++ Q))) := by
          by_cases hc : P.length < st ∧ st < mid
          · rw [if_pos hc]
            have h := symF_spec hr ht f P X1 Y1 (X2 ++ (Y2 ++ Q)) (fun e => by rw [e] at hX1; simp at hX1; omega) (fun e => by rw [e] at hY1; simp at hY1; omega) sX1 sY1 (by omega)
            rw [show P.length + X1.length = st by omega, show st + Y1.length = mid by omega] at h
            exact h
          · rw [if_neg hc]
            have : X1 = [] ∨ Y1 = [] := by
              by_cases h1 : P.length < st
              · right; apply List.length_eq_zero_iff.1; omega
              · left; apply List.length_eq_zero_iff.1; omega
            rcases this with h | h <;> subst h <;> simp
        rw [l2]
        have l3 : (if mid < mid + (P.length + X.length) - st ∧ mid + (P.length + X.length) - st < P.length + X.length + Y.length then symF le f mid (mid + (P.length + X.length) - st) (P.length + X.length + Y.length) (P ++ (List.merge X1 Y1 le ++ (X2 ++ (Y2 ++ Q)))) else P ++ (List.merge X1 Y1 le ++ (X2 ++ (Y2 ++ Q)))) = P ++ (List.merge X1 Y1 le ++ (List.merge X2 Y2 le ++ Q)) := by
          by_cases hc : mid < mid + (P.length + X.length) - st ∧ mid + (P.length + X.length) - st < P.length + X.length + Y.length
          · rw [if_pos hc]
            have h := symF_spec hr ht f (P ++ List.merge X1 Y1 le) X2 Y2 Q (fun e => by rw [e] at lX2; simp at lX2; omega) (fun e => by rw [e] at lY2; simp at lY2; omega) sX2 sY2 (by omega)
            rw [List.length_append, merge_len, show P.length + (X1.length + Y1.length) = mid by omega, show mid + X2.length = mid + (P.length + X.length) - st by omega, show mid + (P.length + X.length) - st + Y2.length = P.length + X.length + Y.length by omega] at h
            simp only [List.append_assoc] at h
            exact h
          · rw [if_neg hc]
            have : X2 = [] ∨ Y2 = [] := by
              by_cases h1 : mid < mid + (P.length + X.length) - st
              · right; apply List.length_eq_zero_iff.1; omega
              · left; apply List.length_eq_zero_iff.1; omega
            rcases this with h | h <;> subst h <;> simp
        rw [l3, hXe, hYe, hsplit, List.append_assoc]
def insD : Nat → Nat → List α → List α
  | 0, _, l => l
  | n + 1, k, l => if leO le l (k - 1) k then l else insD n (k - 1) (sw l k (k - 1))
theorem insD_spec (hr : ∀ x, le x x = true) (ht : ∀ x y z, le x y = true → le y z = true → le x z = true) : ∀ (n : Nat) (P X Q : List α) (y : α), X.length = n → X.Pairwise (fun x y => le x y = true) →
    insD le n (P.length + n) (P ++ (X ++ y :: Q)) = P ++ (List.merge X [y] le ++ Q)
  | 0, P, X, Q, y, h, sX => by
    have h1 : X = [] := List.length_eq_zero_iff.1 h
    subst h1
    unfold insD
    simp
  | n + 1, P, X, Q, y, h, sX => by
    obtain ⟨X', x, rfl⟩ : ∃ X' x, X = X' ++ [x] := ⟨X.dropLast, X.getLast (by intro e; subst e; simp at h), (List.dropLast_concat_getLast _).symm⟩
    have hX : X'.length = n := by simpa using h
    have sX' := (List.pairwise_append.1 sX).1
    have g1 : (P ++ (X' ++ [x] ++ y :: Q))[P.length + (n + 1) - 1]? = some x := by
      rw [List.getElem?_append_right (by omega), show P.length + (n + 1) - 1 - P.length = X'.length by omega]; simp
    have g2 : (P ++ (X' ++ [x] ++ y :: Q))[P.length + (n + 1)]? = some y := by
      rw [List.getElem?_append_right (by omega), show P.length + (n + 1) - P.length = (X' ++ [x]).length by simp; omega, List.getElem?_append_right (Nat.le_refl _)]; simp
    have hv : leO le (P ++ (X' ++ [x] ++ y :: Q)) (P.length + (n + 1) - 1) (P.length + (n + 1)) = le x y := by
      unfold leO; rw [g1, g2]
    unfold insD
    rw [hv]
    by_cases hle : le x y = true
    · rw [if_pos hle]
      have hall : ∀ z ∈ X' ++ [x], le z y = true := fun z hz => by
        rcases List.mem_append.1 hz with h1 | h1
        · exact ht _ _ _ ((List.pairwise_append.1 sX).2.2 z h1 x (by simp)) hle
        · simp at h1; subst h1; exact hle
      have hm := merge_one_right le y (X' ++ [x]) [] hall (fun z hz => by simp at hz)
      rw [List.append_nil] at hm
      rw [hm]; simp
    · rw [if_neg hle]
      have e := sw_at' (P ++ X') [] Q x y
      simp only [List.nil_append, List.length_nil, Nat.add_zero, List.length_append, List.append_assoc, hX] at e
      have ih := insD_spec hr ht n P X' (x :: Q) y hX sX'
      have hm := merge_split le _ X' [x] [y] [] rfl (fun a ha b hb => by simp at ha hb; subst ha; subst hb; simpa using hle) (fun a ha b hb => by simp at hb)
      rw [List.append_nil, merge_nil_right] at hm
      rw [hm, show P.length + (n + 1) - 1 = P.length + n by omega, show P.length + (n + 1) = P.length + n + 1 by omega]
      simp only [List.append_assoc, List.cons_append, List.nil_append] at ih ⊢
      rw [e]
      exact ih
def insG : Nat → Nat → Nat → List α → List α
  | 0, _, _, l => l
  | n + 1, a, i, l => insG n a (i + 1) (insD le (i - a) i l)
def isortF (X Z : List α) : List α := Z.foldl (fun acc y => List.merge acc [y] le) X
theorem merge_sorted (hr : ∀ x y, le x y = true ∨ le y x = true) (ht : ∀ x y z, le x y = true → le y z = true → le x z = true) {X Y : List α} (sX : X.Pairwise fun x y => le x y = true) (sY : Y.Pairwise fun x y => le x y = true) :
    (List.merge X Y le).Pairwise fun x y => le x y = true :=
  List.pairwise_merge (le := le) (fun a b c h1 h2 => ht a b c h1 h2) (fun a b => by rcases hr a b with h | h <;> simp [h]) X Y sX sY
theorem insG_spec (hr : ∀ x y, le x y = true ∨ le y x = true) (ht : ∀ x y z, le x y = true → le y z = true → le x z = true) : ∀ (n : Nat) (P X Z Q : List α), Z.length = n → X.Pairwise (fun x y => le x y = true) →
    insG le n P.length (P.length + X.length) (P ++ (X ++ (Z ++ Q))) = P ++ (isortF le X Z ++ Q)
  | 0, P, X, Z, Q, h, sX => by
    have h1 : Z = [] := List.length_eq_zero_iff.1 h
    subst h1; rfl
  | n + 1, P, X, [], Q, h, sX => by simp at h
  | n + 1, P, X, y :: Z, Q, h, sX => by
    have hr' : ∀ x, le x x = true := fun x => by rcases hr x x with h | h <;> exact h
    have h1 := insD_spec le hr' ht X.length P X (Z ++ Q) y rfl sX
    have ih := insG_spec hr ht n P (List.merge X [y] le) Z Q (by simpa using h) (merge_sorted le hr ht sX (by simp))
    unfold insG
    rw [show P.length + X.length - P.length = X.length by omega, List.cons_append, h1]
    rw [merge_len] at ih
    exact ih
abbrev Srt (l : List α) : Prop := l.Pairwise fun x y => le x y = true
inductive ChS (s : Nat) : List α → Prop
  | last (l : List α) (h : l.length ≤ s) (o : Srt le l) : ChS s l
  | cons (x l : List α) (h : x.length = s) (o : Srt le x) (k : ChS s l) : ChS s (x ++ l)
def eqk (k y : α) : Bool := le k y && le y k
theorem merge_filter (hr : ∀ x y, le x y = true ∨ le y x = true) (ht : ∀ x y z, le x y = true → le y z = true → le x z = true) (k : α) : ∀ (X Y : List α), Srt le X → (List.merge X Y le).filter (eqk le k) = X.filter (eqk le k) ++ Y.filter (eqk le k)
  | [], Y, _ => by simp
  | x :: X, [], _ => by simp
  | x :: X, y :: Y, h => by
    have h2 := List.pairwise_cons.1 h
    rw [List.cons_merge_cons]
    cases hxy : le x y with
    | true =>
      rw [if_pos rfl, List.filter_cons, List.filter_cons (xs := X), merge_filter hr ht k X (y :: Y) h2.2]
      split <;> rfl
    | false =>
      rw [if_neg (by simp), List.filter_cons, List.filter_cons (xs := Y), merge_filter hr ht k (x :: X) Y h]
      cases hp : eqk le k y with
      | false => simp
      | true =>
        have e : (x :: X).filter (eqk le k) = [] := by
          refine List.filter_eq_nil_iff.2 fun z hz hk => ?_
          simp only [eqk, Bool.and_eq_true] at hp hk
          have hxz : le x z = true := by
            rcases List.mem_cons.1 hz with rfl | hz
            · rcases hr z z with h | h <;> exact h
            · exact h2.1 z hz
          have := ht _ _ _ hxz (ht _ _ _ hk.2 hp.1)
          rw [hxy] at this; cases this
        rw [e]; simp
structure Keeps (l l' : List α) : Prop where
  perm : l'.Perm l
  same : Srt le l → l' = l
  filt : ∀ k, l'.filter (eqk le k) = l.filter (eqk le k)
theorem Keeps.refl (l : List α) : Keeps le l l := ⟨List.Perm.refl _, fun _ => rfl, fun _ => rfl⟩
theorem Keeps.trans {a b c : List α} (h : Keeps le a b) (k : Keeps le b c) : Keeps le a c := ⟨k.perm.trans h.perm, fun o => by
  have e := h.same o
  rw [e] at k
  rw [k.same o], fun q => (k.filt q).trans (h.filt q)⟩
theorem Keeps.front {a b : List α} (x : List α) (h : Keeps le a b) : Keeps le (x ++ a) (x ++ b) := ⟨h.perm.append_left x, fun o => by rw [h.same (List.pairwise_append.1 o).2.1], fun k => by rw [List.filter_append, List.filter_append, h.filt k]⟩
theorem Keeps.back {a b : List α} (x : List α) (h : Keeps le a b) : Keeps le (a ++ x) (b ++ x) := ⟨h.perm.append_right x, fun o => by rw [h.same (List.pairwise_append.1 o).1], fun k => by rw [List.filter_append, List.filter_append, h.filt k]⟩
theorem merge_keeps (hr : ∀ x y, le x y = true ∨ le y x = true) (ht : ∀ x y z, le x y = true → le y z = true → le x z = true) (X Y : List α) (h : Srt le X) : Keeps le (X ++ Y) (List.merge X Y le) :=
  ⟨List.merge_perm_append le, fun o => List.merge_of_le fun x y hx hy => (List.pairwise_append.1 o).2.2 x hx y hy, fun k => by rw [merge_filter le hr ht k X Y h, List.filter_append]⟩
def pass (s n : Nat) : Nat → Nat → List α → List α
  | 0, _, l => l
  | f + 1, a, l => if a + 2 * s ≤ n then pass s n f (a + 2 * s) (symF le (2 * s) a (a + s) (a + 2 * s) l) else if a + s < n then symF le (n - a) a (a + s) n l else l
theorem pass_spec (hr : ∀ x y, le x y = true ∨ le y x = true) (ht : ∀ x y z, le x y = true → le y z = true → le x z = true) {s : Nat} (hs : 0 < s) : ∀ (f : Nat) (D R : List α) (n : Nat), ChS le s R → n = D.length + R.length → R.length < f →
    ∃ R', pass le s n f D.length (D ++ R) = D ++ R' ∧ ChS le (2 * s) R' ∧ Keeps le R R'
  | 0, D, R, n, h, hn, hf => by omega
  | f + 1, D, R, n, h, hn, hf => by
    have hr' : ∀ x, le x x = true := fun x => by rcases hr x x with h | h <;> exact h
    cases h with
    | last l h o =>
      unfold pass
      rw [if_neg (by omega), if_neg (by omega)]
      exact ⟨R, rfl, .last _ (by omega) o, Keeps.refl le R⟩
    | cons x l h o k =>
      have two : ∀ (y q : List α), y.length ≤ s → y ≠ [] → Srt le y → ∀ F, x.length + y.length ≤ F → symF le F D.length (D.length + s) (D.length + (x.length + y.length)) (D ++ (x ++ (y ++ q))) = D ++ (List.merge x y le ++ q) := fun y q h1 h2 h3 F hF => by
        have := symF_spec le hr' ht F D x y q (fun e => by rw [e] at h; simp at h; omega) h2 o h3 hF
        rw [h] at this ⊢
        rw [Nat.add_assoc] at this
        exact this
      cases k with
      | last _ h1 o1 =>
        unfold pass
        by_cases c1 : D.length + 2 * s ≤ n
        · rw [if_pos c1]
          simp only [List.length_append] at hn
          have hl : l.length = s := by omega
          have ht2 := two l [] h1 (fun e => by rw [e] at hl; simp at hl; omega) o1 (2 * s) (by omega)
          rw [List.append_nil, List.append_nil, show D.length + (x.length + l.length) = D.length + 2 * s by omega] at ht2
          rw [ht2]
          obtain ⟨R', e1, e2, e3⟩ := pass_spec hr ht hs f (D ++ List.merge x l le) [] n (.last _ (by simp) (by simp)) (by simp; omega) (by simp at hf; simp; omega)
          have e0 : R' = [] := by
            have := e3.perm.length_eq
            exact List.length_eq_zero_iff.1 (by simpa using this)
          subst e0
          rw [List.append_nil, List.length_append, merge_len, show D.length + (x.length + l.length) = D.length + 2 * s by omega] at e1
          refine ⟨List.merge x l le, e1, .last _ (by rw [merge_len]; omega) (merge_sorted le hr ht o o1), merge_keeps le hr ht x l o⟩
        · rw [if_neg c1]
          simp only [List.length_append] at hn
          by_cases c2 : D.length + s < n
          · rw [if_pos c2]
            have ht2 := two l [] h1 (fun e => by rw [e] at hn; simp at hn; omega) o1 (n - D.length) (by omega)
            rw [List.append_nil, List.append_nil, show D.length + (x.length + l.length) = n by omega] at ht2
            rw [ht2]
            exact ⟨List.merge x l le, rfl, .last _ (by rw [merge_len]; omega) (merge_sorted le hr ht o o1), merge_keeps le hr ht x l o⟩
          · rw [if_neg c2]
            have hl : l = [] := List.length_eq_zero_iff.1 (by omega)
            subst hl
            rw [List.append_nil]
            exact ⟨x, rfl, .last _ (by omega) o, Keeps.refl le x⟩
      | cons y q h1 o1 k1 =>
        unfold pass
        simp only [List.length_append] at hn hf
        rw [if_pos (by omega)]
        have ht2 := two y q (by omega) (fun e => by rw [e] at h1; simp at h1; omega) o1 (2 * s) (by omega)
        rw [show D.length + (x.length + y.length) = D.length + 2 * s by omega] at ht2
        rw [ht2]
        obtain ⟨R', e1, e2, e3⟩ := pass_spec hr ht hs f (D ++ List.merge x y le) q n k1 (by simp; omega) (by omega)
        rw [List.length_append, merge_len, show D.length + (x.length + y.length) = D.length + 2 * s by omega, List.append_assoc] at e1
        refine ⟨List.merge x y le ++ R', by rw [e1, List.append_assoc], .cons _ _ (by rw [merge_len]; omega) (merge_sorted le hr ht o o1) e2, ?_⟩
        have m1 := (merge_keeps le hr ht x y o).back le q
        rw [List.append_assoc] at m1
        exact m1.trans le (e3.front le _)
def insB (a b : Nat) (l : List α) : List α := insG le (b - (a + 1)) a (a + 1) l
theorem isortF_spec (hr : ∀ x y, le x y = true ∨ le y x = true) (ht : ∀ x y z, le x y = true → le y z = true → le x z = true) : ∀ (Z X : List α), Srt le X → Srt le (isortF le X Z) ∧ Keeps le (X ++ Z) (isortF le X Z)
  | [], X, h => ⟨h, by rw [List.append_nil]; exact Keeps.refl le X⟩
  | y :: Z, X, h => by
    obtain ⟨h1, h2⟩ := isortF_spec hr ht Z (List.merge X [y] le) (merge_sorted le hr ht h (by simp))
    refine ⟨h1, ?_⟩
    have k := (merge_keeps le hr ht X [y] h).back le Z
    rw [List.append_assoc] at k
    exact k.trans le h2
theorem insB_spec (hr : ∀ x y, le x y = true ∨ le y x = true) (ht : ∀ x y z, le x y = true → le y z = true → le x z = true) (P Z Q : List α) : ∃ Z', insB le P.length (P.length + Z.length) (P ++ (Z ++ Q)) = P ++ (Z' ++ Q) ∧ Srt le Z' ∧ Keeps le Z Z' := by
  cases Z with
  | nil => exact ⟨[], by unfold insB; rw [show P.length + ([] : List α).length - (P.length + 1) = 0 by simp]; rfl, by simp, Keeps.refl le _⟩
  | cons z Z =>
    have h := insG_spec le hr ht Z.length P [z] Z Q rfl (by simp)
    obtain ⟨h1, h2⟩ := isortF_spec le hr ht Z [z] (by simp)
    refine ⟨isortF le [z] Z, ?_, h1, h2⟩
    unfold insB
    rw [show P.length + (z :: Z).length - (P.length + 1) = Z.length by simp; omega]
    exact h
def blk1 (n : Nat) : Nat → Nat → List α → List α
  | 0, _, l => l
  | f + 1, a, l => if a + 20 ≤ n then blk1 n f (a + 20) (insB le a (a + 20) l) else insB le a n l
theorem blk1_spec (hr : ∀ x y, le x y = true ∨ le y x = true) (ht : ∀ x y z, le x y = true → le y z = true → le x z = true) : ∀ (f : Nat) (D R : List α) (n : Nat), n = D.length + R.length → R.length < f →
    ∃ R', blk1 le n f D.length (D ++ R) = D ++ R' ∧ ChS le 20 R' ∧ Keeps le R R'
  | 0, D, R, n, hn, hf => by omega
  | f + 1, D, R, n, hn, hf => by
    unfold blk1
    by_cases c : D.length + 20 ≤ n
    · rw [if_pos c]
      obtain ⟨Z, Q, rfl, hZ⟩ : ∃ Z Q, R = Z ++ Q ∧ Z.length = 20 := ⟨R.take 20, R.drop 20, (List.take_append_drop 20 R).symm, by simp; omega⟩
      simp only [List.length_append] at hn hf
      obtain ⟨Z', e1, e2, e3⟩ := insB_spec le hr ht D Z Q
      rw [hZ] at e1
      have hZ' : Z'.length = 20 := by rw [e3.perm.length_eq, hZ]
      rw [e1]
      obtain ⟨R', k1, k2, k3⟩ := blk1_spec hr ht f (D ++ Z') Q n (by simp; omega) (by omega)
      rw [List.length_append, hZ', List.append_assoc] at k1
      refine ⟨Z' ++ R', by rw [k1, List.append_assoc], .cons _ _ hZ' e2 k2, (e3.back le Q).trans le (k3.front le Z')⟩
    · rw [if_neg c]
      obtain ⟨Z', e1, e2, e3⟩ := insB_spec le hr ht D R []
      rw [List.append_nil, List.append_nil, ← hn] at e1
      exact ⟨Z', e1, .last _ (by rw [e3.perm.length_eq]; omega) e2, e3⟩
def stL (n : Nat) : Nat → Nat → List α → List α
  | 0, _, l => l
  | f + 1, s, l => if s < n then stL n f (2 * s) (pass le s n (n + 1) 0 l) else l
theorem chs_sorted {s : Nat} {l : List α} (h : ChS le s l) (hl : l.length ≤ s) : Srt le l := by
  cases h with
  | last _ h o => exact o
  | cons x q h o k =>
    have : q = [] := List.length_eq_zero_iff.1 (by simp at hl; omega)
    subst this
    rw [List.append_nil]; exact o
theorem stL_spec (hr : ∀ x y, le x y = true ∨ le y x = true) (ht : ∀ x y z, le x y = true → le y z = true → le x z = true) : ∀ (f s : Nat) (l : List α), 0 < s → ChS le s l → l.length < f + s → Srt le (stL le l.length f s l) ∧ Keeps le l (stL le l.length f s l)
  | 0, s, l, hs, h, hf => by
    show Srt le l ∧ Keeps le l l
    exact ⟨chs_sorted le h (by omega), Keeps.refl le l⟩
  | f + 1, s, l, hs, h, hf => by
    unfold stL
    by_cases c : s < l.length
    · rw [if_pos c]
      obtain ⟨R', e1, e2, e3⟩ := pass_spec le hr ht hs (l.length + 1) [] l l.length h (by simp) (by omega)
      simp only [List.length_nil, List.nil_append] at e1
      rw [e1]
      have hl := e3.perm.length_eq
      obtain ⟨k1, k2⟩ := stL_spec hr ht f (2 * s) R' (by omega) e2 (by omega)
      rw [hl] at k1 k2
      exact ⟨k1, e3.trans le k2⟩
    · rw [if_neg c]
      exact ⟨chs_sorted le h (by omega), Keeps.refl le l⟩
theorem stable_spec (hr : ∀ x y, le x y = true ∨ le y x = true) (ht : ∀ x y z, le x y = true → le y z = true → le x z = true) (l : List α) :
    Srt le (stL le l.length l.length 20 (blk1 le l.length (l.length + 1) 0 l)) ∧ Keeps le l (stL le l.length l.length 20 (blk1 le l.length (l.length + 1) 0 l)) := by
  obtain ⟨R', e1, e2, e3⟩ := blk1_spec le hr ht (l.length + 1) [] l l.length (by simp) (by omega)
  simp only [List.length_nil, List.nil_append] at e1
  rw [e1]
  have hl := e3.perm.length_eq
  obtain ⟨k1, k2⟩ := stL_spec le hr ht l.length 20 R' (by omega) e2 (by omega)
  rw [hl] at k1 k2
  exact ⟨k1, e3.trans le k2⟩
end
end Go.Cf

namespace Go.Cf
open Go Go.Ab
set_option linter.unusedVariables false
set_option linter.unusedSimpArgs false
def keyR (at_ : Int) (r : List Val) : Int × Int := bif decide (at_ < 0) then (0, 0) else match r[at_.toNat]? with | some v => bif mayV v then (v.K, v.N) else (2, 0) | none => (0, 0)
theorem w_of (r : List Val) (at_ : Int) : wc W n_bag_of [rowp r, .int .i64 at_] = some (.agg [.int .i64 (keyR at_ r).1, .int .i64 (keyR at_ r).2]) := by
  have h := e_bag_of (r.map Val.pv) at_
  rw [rowp_fold] at h
  rw [h, List.length_map]
  unfold keyR
  by_cases h0 : at_ < 0
  · rw [decide_eq_true h0]; rfl
  · rw [decide_eq_false h0]
    simp only [cond_false]
    by_cases h1 : at_ ≥ (r.length : Int)
    · rw [decide_eq_true h1, List.getElem?_eq_none (by omega)]; rfl
    · have hlt : at_.toNat < r.length := by omega
      rw [decide_eq_false h1]
      simp only [cond_false, J_bag_of_1_eq, decide_eq_true (show (0 : Int) ≤ at_ by omega), cond_true, List.getElem?_map, List.getElem?_eq_getElem hlt, Option.map_some, Option.bind_some, Val.c_mk, Val.fold, w_val_May, c_b_mk, J_bag_of_2_eq]
      cases mayV r[at_.toNat] <;> rfl
def cmpB (a b : Int × Int) : Int := if a.1 < b.1 then -1 else if a.1 > b.1 then 1 else if a.2 < b.2 then -1 else if a.2 > b.2 then 1 else 0
theorem w_cmpI (a b : Int) : wc W n_cmp_Compare_int [.int .i64 a, .int .i64 b] = some (.int .i64 (if a < b then -1 else if a > b then 1 else 0)) := by
  rw [e_cmp_Compare_int, e_cmp_isNaN_int, e_cmp_isNaN_int, bne_f rfl, bne_f rfl]
  simp only [Option.bind_some, c_b_mk, cond_false]
  by_cases h : a < b
  · rw [decide_eq_true h, if_pos h]; rfl
  · rw [decide_eq_false h, if_neg h]
    by_cases h' : a > b
    · rw [decide_eq_true h', if_pos h']; rfl
    · rw [decide_eq_false h', if_neg h']; rfl
theorem w_compare (a b : Int × Int) : wc W n_bag_compare [.agg [.int .i64 a.1, .int .i64 a.2], .agg [.int .i64 b.1, .int .i64 b.2]] = some (.int .i64 (cmpB a b)) := by
  obtain ⟨a1, a2⟩ := a
  obtain ⟨b1, b2⟩ := b
  rw [e_bag_compare, e_slices_Compare_int_int]
  have z1 : ([PV.int .i64 a1, PV.int .i64 a2] : List PV).length = 2 := rfl
  have w1 : IntKind.wrap .i64 ((0 : Int) + 1) = 1 := by decide
  have w2 : IntKind.wrap .i64 ((1 : Int) + 1) = 2 := by decide
  unfold cmpB
  have f1 : decide ((0 : Int) < ((0 + 1 + 1 : Nat) : Int)) = true := rfl
  have f2 : decide ((1 : Int) < ((0 + 1 + 1 : Nat) : Int)) = true := rfl
  have f3 : decide ((2 : Int) < ((0 + 1 + 1 : Nat) : Int)) = false := rfl
  have f4 : decide ((0 : Int) ≤ 0) = true := rfl
  have f5 : decide ((0 : Int) ≤ 1) = true := rfl
  have f6 : decide ((0 : Int) ≥ ((0 + 1 + 1 : Nat) : Int)) = false := rfl
  have f7 : decide ((1 : Int) ≥ ((0 + 1 + 1 : Nat) : Int)) = false := rfl
  have f8 : decide (((0 + 1 + 1 : Nat) : Int) < ((0 + 1 + 1 : Nat) : Int)) = false := rfl
  have f9 : Int.toNat 0 = 0 := rfl
  have f10 : Int.toNat 1 = 1 := rfl
  rw [L_slices_Compare_int_int_1_eq]
  simp only [List.length_cons, List.length_nil, w1, w2, c_i64_mk, List.getElem?_cons_zero, List.getElem?_cons_succ, Option.bind_some, w_cmpI, c_b_mk, cond_true, cond_false, f1, f2, f3, f4, f5, f6, f7, f8, f9, f10]
  rw [L_slices_Compare_int_int_1_eq]
  simp only [List.length_cons, List.length_nil, w1, w2, c_i64_mk, List.getElem?_cons_zero, List.getElem?_cons_succ, Option.bind_some, w_cmpI, c_b_mk, cond_true, cond_false, f1, f2, f3, f4, f5, f6, f7, f8, f9, f10]
  rw [L_slices_Compare_int_int_1_eq]
  simp only [List.length_cons, List.length_nil, w1, w2, c_i64_mk, List.getElem?_cons_zero, List.getElem?_cons_succ, Option.bind_some, w_cmpI, c_b_mk, cond_true, cond_false, f1, f2, f3, f4, f5, f6, f7, f8, f9, f10]
  rcases Int.lt_trichotomy a1 b1 with h | h | h
  · rw [show (a1 == b1) = false by rw [beq_eq_false_iff_ne]; omega]; simp only [if_pos h]; rfl
  · subst h
    simp only [beq_self_eq_true, gt_iff_lt, Int.lt_irrefl, if_false, cond_true]
    rcases Int.lt_trichotomy a2 b2 with h | h | h
    · rw [show (a2 == b2) = false by rw [beq_eq_false_iff_ne]; omega, if_pos h]; rfl
    · subst h; simp only [beq_self_eq_true, Int.lt_irrefl, if_false]; rfl
    · rw [show (a2 == b2) = false by rw [beq_eq_false_iff_ne]; omega, if_neg (show ¬ a2 < b2 by omega), if_pos h]; rfl
  · rw [show (a1 == b1) = false by rw [beq_eq_false_iff_ne]; omega]; simp only [gt_iff_lt, if_neg (show ¬ a1 < b1 by omega), if_pos h]; rfl
def leR (at_ : Int) (r s : List Val) : Bool := !decide (cmpB (keyR at_ s) (keyR at_ r) < 0)
theorem cmpB_lt (a b : Int × Int) : cmpB a b < 0 ↔ a.1 < b.1 ∨ (a.1 = b.1 ∧ a.2 < b.2) := by
  unfold cmpB
  split
  · constructor <;> intro <;> omega
  · split
    · constructor <;> intro <;> omega
    · split
      · constructor <;> intro <;> omega
      · split <;> constructor <;> intro <;> omega
theorem leR_iff (at_ : Int) (r s : List Val) : leR at_ r s = true ↔ (keyR at_ r).1 < (keyR at_ s).1 ∨ ((keyR at_ r).1 = (keyR at_ s).1 ∧ (keyR at_ r).2 ≤ (keyR at_ s).2) := by
  unfold leR
  rw [Bool.not_eq_true', decide_eq_false_iff_not, cmpB_lt]
  constructor <;> intro <;> omega
theorem leR_total (at_ : Int) (r s : List Val) : leR at_ r s = true ∨ leR at_ s r = true := by
  rw [leR_iff, leR_iff]; omega
theorem leR_trans (at_ : Int) (r s t : List Val) (h : leR at_ r s = true) (k : leR at_ s t = true) : leR at_ r t = true := by
  rw [leR_iff] at *; omega
def varA (at_ : Int) : Ob := .var false 0 (.pv (.int .i64 at_))
theorem w_Sort2 (r s : List Val) (at_ : Int) : W n_bag_Sort_2 false [.pv (rowp r), .pv (rowp s), .own 0 0] [.var false 0 (.pv (.int .i64 at_))] = some (.pv (.int .i64 (cmpB (keyR at_ r) (keyR at_ s))), [.var false 0 (.pv (.int .i64 at_))]) := by
  have h := o_bag_Sort_2_o1_1 (r.map Val.pv) (s.map Val.pv) at_
  rw [rowp_fold, rowp_fold, w_of, w_of] at h
  have c := w_compare (keyR at_ r) (keyR at_ s)
  simp only [Option.bind_some, c_g_i64_i64_mk, c, c_i64_mk] at h
  exact h
theorem sw_len {α : Type} (l : List α) (i j : Nat) : (sw l i j).length = l.length := by
  unfold sw
  split
  · simp
  · rfl
theorem swapN_len {α : Type} : ∀ (n a b : Nat) (l : List α), (swapN n a b l).length = l.length
  | 0, _, _, _ => rfl
  | n + 1, a, b, l => by unfold swapN; rw [swapN_len n, sw_len]
theorem mvR_len {α : Type} : ∀ (n k : Nat) (l : List α), (mvR n k l).length = l.length
  | 0, _, _ => rfl
  | n + 1, k, l => by unfold mvR; rw [mvR_len n, sw_len]
theorem mvL_len {α : Type} : ∀ (n k : Nat) (l : List α), (mvL n k l).length = l.length
  | 0, _, _ => rfl
  | n + 1, k, l => by unfold mvL; rw [mvL_len n, sw_len]
theorem rotG_len {α : Type} (m : Nat) : ∀ (f i j : Nat) (l : List α), (rotG m f i j l).length = l.length
  | 0, _, _, _ => rfl
  | f + 1, i, j, l => by
    unfold rotG
    split
    · exact swapN_len _ _ _ _
    · split
      · rw [rotG_len m f, swapN_len]
      · rw [rotG_len m f, swapN_len]
theorem insD_len {α : Type} (le : α → α → Bool) : ∀ (n k : Nat) (l : List α), (insD le n k l).length = l.length
  | 0, _, _ => rfl
  | n + 1, k, l => by
    unfold insD
    split
    · rfl
    · rw [insD_len le n, sw_len]
theorem insG_len {α : Type} (le : α → α → Bool) : ∀ (n a i : Nat) (l : List α), (insG le n a i l).length = l.length
  | 0, _, _, _ => rfl
  | n + 1, a, i, l => by unfold insG; rw [insG_len le n, insD_len]
theorem ite_len {α : Type} {p : Prop} [Decidable p] {x y : List α} {n : Nat} (h : x.length = n) (k : y.length = n) : (if p then x else y).length = n := by split <;> assumption
def symS {α : Type} (le : α → α → Bool) (f a m b mid st en : Nat) (l : List α) : List α :=
  let l1 := if st < m ∧ m < en then rotG m (en - st) (m - st) (en - m) l else l
  let l2 := if a < st ∧ st < mid then symF le f a st mid l1 else l1
  if mid < en ∧ en < b then symF le f mid en b l2 else l2
theorem symF_succ {α : Type} (le : α → α → Bool) (f a m b : Nat) (l : List α) : symF le (f + 1) a m b l =
    if m - a = 1 then mvR (bs (fun h => !leO le l a h) (b - m) m b - 1 - a) a l
    else if b - m = 1 then mvL (m - bs (fun h => leO le l h m) (m - a) a m) m l
    else if m > (a + b) / 2 then
      symS le f a m b ((a + b) / 2) (bs (fun c => leO le l c ((a + b) / 2 + m - 1 - c)) ((a + b) / 2 - ((a + b) / 2 + m - b)) ((a + b) / 2 + m - b) ((a + b) / 2)) ((a + b) / 2 + m - bs (fun c => leO le l c ((a + b) / 2 + m - 1 - c)) ((a + b) / 2 - ((a + b) / 2 + m - b)) ((a + b) / 2 + m - b) ((a + b) / 2)) l
    else
      symS le f a m b ((a + b) / 2) (bs (fun c => leO le l c ((a + b) / 2 + m - 1 - c)) (m - a) a m) ((a + b) / 2 + m - bs (fun c => leO le l c ((a + b) / 2 + m - 1 - c)) (m - a) a m) l := by
  rw [symF]
  split
  · rfl
  · split
    · rfl
    · by_cases h : m > (a + b) / 2
      · simp only [if_pos h]; rfl
      · simp only [if_neg h]; rfl
theorem symF_len {α : Type} (le : α → α → Bool) : ∀ (f a m b : Nat) (l : List α), (symF le f a m b l).length = l.length
  | 0, _, _, _, _ => rfl
  | f + 1, a, m, b, l => by
    have hS : ∀ st en mid, (symS le f a m b mid st en l).length = l.length := fun st en mid => by
      have h1 : (if st < m ∧ m < en then rotG m (en - st) (m - st) (en - m) l else l).length = l.length := ite_len (rotG_len _ _ _ _ _) rfl
      unfold symS
      simp only
      generalize (if st < m ∧ m < en then rotG m (en - st) (m - st) (en - m) l else l) = l1 at h1
      have h2 : (if a < st ∧ st < mid then symF le f a st mid l1 else l1).length = l.length := ite_len ((symF_len le f _ _ _ _).trans h1) h1
      generalize (if a < st ∧ st < mid then symF le f a st mid l1 else l1) = l2 at h2
      exact ite_len ((symF_len le f _ _ _ _).trans h2) h2
    rw [symF_succ]
    exact ite_len (mvR_len _ _ _) (ite_len (mvL_len _ _ _) (ite_len (hS _ _ _) (hS _ _ _)))
theorem bs_le (q : Nat → Bool) : ∀ (f lo hi : Nat), lo ≤ hi → lo ≤ bs q f lo hi ∧ bs q f lo hi ≤ hi
  | 0, lo, hi, h => ⟨Nat.le_refl _, h⟩
  | f + 1, lo, hi, h => by
    unfold bs
    split
    · split
      · have := bs_le q f ((lo + hi) / 2 + 1) hi (by omega); omega
      · have := bs_le q f lo ((lo + hi) / 2) (by omega); omega
    · omega
theorem sw_map (l : List (List Val)) (i j : Nat) (hi : i < l.length) (hj : j < l.length) : ((l.map rowp).set i (rowp l[j])).set j (rowp l[i]) = (sw l i j).map rowp := by
  unfold sw
  rw [List.getElem?_eq_getElem hi, List.getElem?_eq_getElem hj]
  simp only [List.map_set]
def tells (l : List (List Val)) (at_ : Int) : Option (AV × List Ob) := some (.pv (.tup []), [.fix 0 0 (l.map rowp), .var false 0 (.pv (.int .i64 at_))])
theorem swap_loop (at_ : Int) (a b n : Nat) : ∀ (k i : Nat) (l : List (List Val)), i + k = n → a + n ≤ l.length → b + n ≤ l.length → l.length ≤ 1000000000 →
    L_slices_swapRangeCmpFunc_api_Val_o2_1 (a : Int) (b : Int) (n : Int) (i : Int) (l.map rowp) at_ = tells (swapN k (a + i) (b + i) l) at_
  | 0, i, l, h, ha, hb, hl => by
    rw [L_slices_swapRangeCmpFunc_api_Val_o2_1_eq, show i = n by omega]
    simp only [ge_len, cond_false]; rfl
  | k + 1, i, l, h, ha, hb, hl => by
    have h1 : a + i < l.length := by omega
    have h2 : b + i < l.length := by omega
    have e1 : IntKind.wrap .i64 ((a : Int) + (i : Int)) = ((a + i : Nat) : Int) := by rw [wrap64 (by omega) (by omega)]; omega
    have e2 : IntKind.wrap .i64 ((b : Int) + (i : Int)) = ((b + i : Nat) : Int) := by rw [wrap64 (by omega) (by omega)]; omega
    rw [L_slices_swapRangeCmpFunc_api_Val_o2_1_eq]
    simp only [lt_len (show i < n by omega), cond_true, e1, e2, nat_le, Bool.true_and, List.length_set, List.length_map, lt_len h1, lt_len h2, Int.toNat_natCast, List.getElem?_map, List.getElem?_eq_getElem h1, List.getElem?_eq_getElem h2, Option.map_some, Option.bind_some, c_rowp, rowp_fold]
    have h3 : b + i < ((l.map rowp).set (a + i) (rowp l[b + i])).length := by simpa using h2
    rw [List.getElem?_eq_getElem h3]
    simp only [Option.bind_some]
    rw [sw_map l (a + i) (b + i) h1 h2, wrap_succ (by omega)]
    exact swap_loop at_ a b n k (i + 1) (sw l (a + i) (b + i)) (by omega) (by rw [sw_len]; exact ha) (by rw [sw_len]; exact hb) (by rw [sw_len]; exact hl)
theorem w_swapRange (at_ : Int) (a b n : Nat) (l : List (List Val)) (ha : a + n ≤ l.length) (hb : b + n ≤ l.length) (hl : l.length ≤ 1000000000) :
    W n_slices_swapRangeCmpFunc_api_Val false [.fx 0 0, .pv (.int .i64 (a : Int)), .pv (.int .i64 (b : Int)), .pv (.int .i64 (n : Int)), .fnv n_bag_Sort_2 [] [.own 1 0]] [.fix 0 0 (l.map rowp), .var false 0 (.pv (.int .i64 at_))] = tells (swapN n a b l) at_ := by
  rw [o_slices_swapRangeCmpFunc_api_Val_o2_1]
  exact swap_loop at_ a b n n 0 l (by omega) ha hb hl
theorem rot_loop (at_ : Int) (m : Nat) : ∀ (f i j : Nat) (l : List (List Val)), 0 < i → 0 < j → i + j ≤ f → i ≤ m → m + j ≤ l.length → l.length ≤ 1000000000 →
    L_slices_rotateCmpFunc_api_Val_o2_1 (m : Int) (i : Int) (j : Int) (l.map rowp) at_ = tells (rotG m f i j l) at_
  | 0, i, j, l, hi, hj, hf, _, _, _ => by omega
  | f + 1, i, j, l, hi, hj, hf, him, hmj, hl => by
    have e1 : IntKind.wrap .i64 ((m : Int) - (i : Int)) = ((m - i : Nat) : Int) := by rw [wrap64 (by omega) (by omega)]; omega
    rw [L_slices_rotateCmpFunc_api_Val_o2_1_eq]
    unfold rotG
    rcases Nat.lt_trichotomy i j with h | h | h
    · rw [bne_t (by omega), decide_eq_false (by omega), if_neg (by omega), if_neg (by omega)]
      have e2 : IntKind.wrap .i64 ((IntKind.wrap .i64 ((m : Int) + (j : Int))) - (i : Int)) = ((m + j - i : Nat) : Int) := by rw [wrap64 (n := (m : Int) + j) (by omega) (by omega), wrap64 (by omega) (by omega)]; omega
      have e3 : IntKind.wrap .i64 ((j : Int) - (i : Int)) = ((j - i : Nat) : Int) := by rw [wrap64 (by omega) (by omega)]; omega
      have hs := w_swapRange at_ (m - i) (m + j - i) i l (by omega) (by omega) hl
      simp only [cond_true, cond_false, e1, e2, e3, hs, tells, Option.bind_some, k_c4d914_mk]
      exact rot_loop at_ m f i (j - i) _ hi (by omega) (by omega) him (by rw [swapN_len]; omega) (by rw [swapN_len]; exact hl)
    · subst h
      have hs := w_swapRange at_ (m - i) m i l (by omega) (by omega) hl
      rw [bne_f rfl, if_pos rfl]
      simp only [cond_false, e1, hs, tells, Option.bind_some, k_c4d914_mk]
    · rw [bne_t (by omega), decide_eq_true (by omega), if_neg (by omega), if_pos h]
      have e3 : IntKind.wrap .i64 ((i : Int) - (j : Int)) = ((i - j : Nat) : Int) := by rw [wrap64 (by omega) (by omega)]; omega
      have hs := w_swapRange at_ (m - i) m j l (by omega) (by omega) hl
      simp only [cond_true, cond_false, e1, e3, hs, tells, Option.bind_some, k_c4d914_mk]
      exact rot_loop at_ m f (i - j) j _ (by omega) hj (by omega) (by omega) (by rw [swapN_len]; omega) (by rw [swapN_len]; exact hl)
theorem w_rotate (at_ : Int) (a m b : Nat) (l : List (List Val)) (h1 : a < m) (h2 : m < b) (h3 : b ≤ l.length) (hl : l.length ≤ 1000000000) :
    W n_slices_rotateCmpFunc_api_Val false [.fx 0 0, .pv (.int .i64 (a : Int)), .pv (.int .i64 (m : Int)), .pv (.int .i64 (b : Int)), .fnv n_bag_Sort_2 [] [.own 1 0]] [.fix 0 0 (l.map rowp), .var false 0 (.pv (.int .i64 at_))] = tells (rotG m (b - a) (m - a) (b - m) l) at_ := by
  rw [o_slices_rotateCmpFunc_api_Val_o2_1, show IntKind.wrap .i64 ((m : Int) - (a : Int)) = ((m - a : Nat) : Int) by rw [wrap64 (by omega) (by omega)]; omega, show IntKind.wrap .i64 ((b : Int) - (m : Int)) = ((b - m : Nat) : Int) by rw [wrap64 (by omega) (by omega)]; omega]
  exact rot_loop at_ m (b - a) (m - a) (b - m) l (by omega) (by omega) (by omega) (by omega) (by omega) hl
theorem leO_get (at_ : Int) (l : List (List Val)) (i j : Nat) (hi : i < l.length) (hj : j < l.length) : leO (leR at_) l i j = !decide (cmpB (keyR at_ l[j]) (keyR at_ l[i]) < 0) := by
  unfold leO
  rw [List.getElem?_eq_getElem hi, List.getElem?_eq_getElem hj]; rfl
theorem ins_outer (at_ : Int) (a b : Nat) : ∀ (n i : Nat) (l : List (List Val)), i + n = b → a < i → b ≤ l.length → l.length ≤ 1000000000 →
    L_slices_insertionSortCmpFunc_api_Val_o2_1 (a : Int) (b : Int) (i : Int) (l.map rowp) at_ = tells (insG (leR at_) n a i l) at_
  | 0, i, l, h, ha, hb, hl => by
    rw [L_slices_insertionSortCmpFunc_api_Val_o2_1_eq, show i = b by omega]
    simp only [ge_len, cond_false]; rfl
  | n + 1, i, l, h, ha, hb, hl => by
    rw [L_slices_insertionSortCmpFunc_api_Val_o2_1_eq]
    simp only [lt_len (show i < b by omega), cond_true]
    have key : ∀ (n' k : Nat) (l : List (List Val)), k = a + n' → k ≤ i → k < l.length → b ≤ l.length → l.length ≤ 1000000000 → L_slices_insertionSortCmpFunc_api_Val_o2_2 (a : Int) (b : Int) (i : Int) (k : Int) (l.map rowp) at_ = tells (insG (leR at_) n a (i + 1) (insD (leR at_) n' k l)) at_ := by
      intro n'
      induction n' with
      | zero =>
        intro k l h1 h2 h3 h4 h5
        rw [L_slices_insertionSortCmpFunc_api_Val_o2_2_eq, decide_eq_false (by omega), cond_false, wrap_succ (by omega)]
        exact ins_outer at_ a b n (i + 1) l (by omega) (by omega) h4 h5
      | succ n' ih =>
        intro k l h1 h2 hk h4 hl
        have hk1 : k - 1 < l.length := by omega
        have e1 : IntKind.wrap .i64 ((k : Int) - 1) = ((k - 1 : Nat) : Int) := by rw [wrap64 (by omega) (by omega)]; omega
        rw [L_slices_insertionSortCmpFunc_api_Val_o2_2_eq, decide_eq_true (show (k : Int) > (a : Int) by omega)]
        simp only [cond_true, e1, nat_le, Bool.true_and, List.length_map, lt_len hk, lt_len hk1, Int.toNat_natCast, List.getElem?_map, List.getElem?_eq_getElem hk, List.getElem?_eq_getElem hk1, Option.map_some, Option.bind_some, c_rowp, rowp_fold, w_Sort2, k_5b106d_mk, c_i64_mk]
        unfold insD
        rw [leO_get at_ l (k - 1) k hk1 hk]
        cases hd : decide (cmpB (keyR at_ l[k]) (keyR at_ l[k - 1]) < 0) with
        | false =>
          simp only [cond_false, Bool.not_false, if_true]
          rw [wrap_succ (by omega)]
          exact ins_outer at_ a b n (i + 1) l (by omega) (by omega) h4 hl
        | true =>
          simp only [cond_true, Bool.not_true, Bool.false_eq_true, if_false, J_slices_insertionSortCmpFunc_api_Val_o2_3_eq, e1, nat_le, Bool.true_and, List.length_set, List.length_map, lt_len hk, lt_len hk1, Int.toNat_natCast, List.getElem?_map, List.getElem?_eq_getElem hk, List.getElem?_eq_getElem hk1, Option.map_some, Option.bind_some, c_rowp, rowp_fold]
          have h3 : k - 1 < ((l.map rowp).set k (rowp l[k - 1])).length := by simpa using hk1
          rw [List.getElem?_eq_getElem h3]
          simp only [Option.bind_some]
          rw [sw_map l k (k - 1) hk hk1]
          exact ih (k - 1) (sw l k (k - 1)) (by omega) (by omega) (by rw [sw_len]; omega) (by rw [sw_len]; exact h4) (by rw [sw_len]; exact hl)
    have := key (i - a) i l (by omega) (Nat.le_refl _) (by omega) hb hl
    rw [this]; rfl
theorem w_insertion (at_ : Int) (a b : Nat) (l : List (List Val)) (hb : b ≤ l.length) (hab : a ≤ b) (hl : l.length ≤ 1000000000) :
    W n_slices_insertionSortCmpFunc_api_Val false [.fx 0 0, .pv (.int .i64 (a : Int)), .pv (.int .i64 (b : Int)), .fnv n_bag_Sort_2 [] [.own 1 0]] [.fix 0 0 (l.map rowp), .var false 0 (.pv (.int .i64 at_))] = tells (insB (leR at_) a b l) at_ := by
  rw [o_slices_insertionSortCmpFunc_api_Val_o2_1, wrap_succ (by omega)]
  unfold insB
  rcases Nat.lt_or_ge a b with h | h
  · exact ins_outer at_ a b (b - (a + 1)) (a + 1) l (by omega) (by omega) hb hl
  · rw [show b - (a + 1) = 0 by omega, L_slices_insertionSortCmpFunc_api_Val_o2_1_eq, decide_eq_false (by omega)]; rfl
end Go.Cf

namespace Go.Cf
open Go Go.Ab
set_option linter.unusedVariables false
set_option linter.unusedSimpArgs false
theorem half_w (x y : Nat) (h : x + y ≤ 4000000000) : IntKind.wrap .i64 (Int.fdiv (IntKind.wrap .u64 (IntKind.wrap .i64 ((x : Int) + (y : Int)))) 2) = (((x + y) / 2 : Nat) : Int) := by
  rw [wrap64 (n := (x : Int) + y) (by omega) (by omega)]
  have e : IntKind.wrap .u64 ((x : Int) + (y : Int)) = ((x + y : Nat) : Int) := by
    simp only [IntKind.wrap, IntKind.bits, IntKind.signed]
    simp
    omega
  rw [e, show Int.fdiv ((x + y : Nat) : Int) 2 = (((x + y) / 2 : Nat) : Int) by
    rw [Int.fdiv_eq_ediv_of_nonneg _ (by omega)]; omega]
  exact wrap64 (by omega) (by omega)
theorem mvR_loop (at_ : Int) (i : Nat) : ∀ (n k : Nat) (l : List (List Val)), k + n = i - 1 → 0 < i → i ≤ l.length → l.length ≤ 1000000000 →
    L_slices_symMergeCmpFunc_api_Val_o2_4 (i : Int) (k : Int) (l.map rowp) at_ = tells (mvR n k l) at_
  | 0, k, l, h, h0, hi, hl => by
    have e1 : IntKind.wrap .i64 ((i : Int) - 1) = ((i - 1 : Nat) : Int) := by rw [wrap64 (by omega) (by omega)]; omega
    rw [L_slices_symMergeCmpFunc_api_Val_o2_4_eq, e1, decide_eq_false (by omega)]; rfl
  | n + 1, k, l, h, h0, hi, hl => by
    have e1 : IntKind.wrap .i64 ((i : Int) - 1) = ((i - 1 : Nat) : Int) := by rw [wrap64 (by omega) (by omega)]; omega
    have e2 : IntKind.wrap .i64 ((k : Int) + 1) = ((k + 1 : Nat) : Int) := by rw [wrap64 (by omega) (by omega)]; omega
    have h1 : k < l.length := by omega
    have h2 : k + 1 < l.length := by omega
    rw [L_slices_symMergeCmpFunc_api_Val_o2_4_eq]
    simp only [e1, e2, decide_eq_true (show (k : Int) < ((i - 1 : Nat) : Int) by omega), cond_true, nat_le, Bool.true_and, List.length_set, List.length_map, lt_len h1, lt_len h2, Int.toNat_natCast, List.getElem?_map, List.getElem?_eq_getElem h1, List.getElem?_eq_getElem h2, Option.map_some, Option.bind_some, c_rowp, rowp_fold]
    have h3 : k + 1 < ((l.map rowp).set k (rowp l[k + 1])).length := by simpa using h2
    rw [List.getElem?_eq_getElem h3]
    simp only [Option.bind_some]
    rw [sw_map l k (k + 1) h1 h2]
    exact mvR_loop at_ i n (k + 1) (sw l k (k + 1)) (by omega) h0 (by rw [sw_len]; exact hi) (by rw [sw_len]; exact hl)
theorem mvL_loop (at_ : Int) (i : Nat) : ∀ (n k : Nat) (l : List (List Val)), k = i + n → k < l.length → l.length ≤ 1000000000 →
    L_slices_symMergeCmpFunc_api_Val_o2_5 (i : Int) (k : Int) (l.map rowp) at_ = tells (mvL n k l) at_
  | 0, k, l, h, hk, hl => by
    rw [L_slices_symMergeCmpFunc_api_Val_o2_5_eq, decide_eq_false (by omega)]; rfl
  | n + 1, k, l, h, h1, hl => by
    have e2 : IntKind.wrap .i64 ((k : Int) - 1) = ((k - 1 : Nat) : Int) := by rw [wrap64 (by omega) (by omega)]; omega
    have h2 : k - 1 < l.length := by omega
    rw [L_slices_symMergeCmpFunc_api_Val_o2_5_eq]
    simp only [e2, decide_eq_true (show (k : Int) > (i : Int) by omega), cond_true, nat_le, Bool.true_and, List.length_set, List.length_map, lt_len h1, lt_len h2, Int.toNat_natCast, List.getElem?_map, List.getElem?_eq_getElem h1, List.getElem?_eq_getElem h2, Option.map_some, Option.bind_some, c_rowp, rowp_fold]
    have h3 : k - 1 < ((l.map rowp).set k (rowp l[k - 1])).length := by simpa using h2
    rw [List.getElem?_eq_getElem h3]
    simp only [Option.bind_some]
    rw [sw_map l k (k - 1) h1 h2]
    exact mvL_loop at_ i n (k - 1) (sw l k (k - 1)) (by omega) (by rw [sw_len]; omega) (by rw [sw_len]; exact hl)
theorem bs1_loop (at_ : Int) (a : Nat) (l : List (List Val)) (ha : a < l.length) (hl : l.length ≤ 1000000000) : ∀ (f lo hi : Nat), hi - lo ≤ f → lo ≤ hi → hi ≤ l.length →
    L_slices_symMergeCmpFunc_api_Val_o2_1 (a : Int) (lo : Int) (hi : Int) (l.map rowp) at_ = L_slices_symMergeCmpFunc_api_Val_o2_4 ((bs (fun h => !leO (leR at_) l a h) f lo hi : Nat) : Int) (a : Int) (l.map rowp) at_
  | 0, lo, hi, h, hle, hh => by
    rw [L_slices_symMergeCmpFunc_api_Val_o2_1_eq, decide_eq_false (by omega)]; rfl
  | f + 1, lo, hi, h, hle, hh => by
    rw [L_slices_symMergeCmpFunc_api_Val_o2_1_eq]
    unfold bs
    rcases Nat.lt_or_ge lo hi with c | c
    · have hm : (lo + hi) / 2 < l.length := by omega
      rw [if_pos c, leO_get at_ l a ((lo + hi) / 2) ha hm]
      simp only [lt_len c, cond_true, half_w lo hi (by omega), nat_le, Bool.true_and, List.length_map, lt_len hm, lt_len ha, Int.toNat_natCast, List.getElem?_map, List.getElem?_eq_getElem hm, List.getElem?_eq_getElem ha, Option.map_some, Option.bind_some, c_rowp, rowp_fold, w_Sort2, k_5b106d_mk, c_i64_mk, Bool.not_not]
      cases hd : decide (cmpB (keyR at_ l[(lo + hi) / 2]) (keyR at_ l[a]) < 0) with
      | true =>
        simp only [cond_true, if_true]
        rw [wrap_succ (by omega)]
        exact bs1_loop at_ a l ha hl f ((lo + hi) / 2 + 1) hi (by omega) (by omega) hh
      | false =>
        simp only [cond_false, Bool.false_eq_true, if_false]
        exact bs1_loop at_ a l ha hl f lo ((lo + hi) / 2) (by omega) (by omega) (by omega)
    · rw [if_neg (by omega), decide_eq_false (by omega)]; rfl
theorem bs2_loop (at_ : Int) (m : Nat) (l : List (List Val)) (ha : m < l.length) (hl : l.length ≤ 1000000000) : ∀ (f lo hi : Nat), hi - lo ≤ f → lo ≤ hi → hi ≤ l.length →
    L_slices_symMergeCmpFunc_api_Val_o2_2 (m : Int) (lo : Int) (hi : Int) (l.map rowp) at_ = L_slices_symMergeCmpFunc_api_Val_o2_5 ((bs (fun h => leO (leR at_) l h m) f lo hi : Nat) : Int) (m : Int) (l.map rowp) at_
  | 0, lo, hi, h, hle, hh => by
    rw [L_slices_symMergeCmpFunc_api_Val_o2_2_eq, decide_eq_false (by omega)]; rfl
  | f + 1, lo, hi, h, hle, hh => by
    rw [L_slices_symMergeCmpFunc_api_Val_o2_2_eq]
    unfold bs
    rcases Nat.lt_or_ge lo hi with c | c
    · have hm : (lo + hi) / 2 < l.length := by omega
      rw [if_pos c, leO_get at_ l ((lo + hi) / 2) m hm ha]
      simp only [lt_len c, cond_true, half_w lo hi (by omega), nat_le, Bool.true_and, List.length_map, lt_len hm, lt_len ha, Int.toNat_natCast, List.getElem?_map, List.getElem?_eq_getElem hm, List.getElem?_eq_getElem ha, Option.map_some, Option.bind_some, c_rowp, rowp_fold, w_Sort2, k_5b106d_mk, c_i64_mk]
      cases hd : decide (cmpB (keyR at_ l[m]) (keyR at_ l[(lo + hi) / 2]) < 0) with
      | false =>
        simp only [cond_true, Bool.not_false, if_true]
        rw [wrap_succ (by omega)]
        exact bs2_loop at_ m l ha hl f ((lo + hi) / 2 + 1) hi (by omega) (by omega) hh
      | true =>
        simp only [cond_false, Bool.not_true, Bool.false_eq_true, if_false]
        exact bs2_loop at_ m l ha hl f lo ((lo + hi) / 2) (by omega) (by omega) (by omega)
    · rw [if_neg (by omega), decide_eq_false (by omega)]; rfl
theorem bs3_loop (at_ : Int) (a m b mid n p : Nat) (l : List (List Val)) (hl : l.length ≤ 1000000000) (hn : p = n - 1) (R : Nat → Option (AV × List Ob))
    (hR : ∀ st : Nat, st ≤ n → (bif decide ((st : Int) < (m : Int)) then J_slices_symMergeCmpFunc_api_Val_o2_7 (a : Int) (m : Int) (b : Int) (mid : Int) (st : Int) (IntKind.wrap .i64 ((n : Int) - (st : Int))) (decide ((m : Int) < IntKind.wrap .i64 ((n : Int) - (st : Int)))) (l.map rowp) at_
      else J_slices_symMergeCmpFunc_api_Val_o2_7 (a : Int) (m : Int) (b : Int) (mid : Int) (st : Int) (IntKind.wrap .i64 ((n : Int) - (st : Int))) false (l.map rowp) at_) = R st) : ∀ (f lo hi : Nat), hi - lo ≤ f → lo ≤ hi → hi ≤ l.length → p - lo < l.length → hi ≤ p + 1 → hi ≤ n →
    L_slices_symMergeCmpFunc_api_Val_o2_6 (a : Int) (m : Int) (b : Int) (mid : Int) (n : Int) (lo : Int) (hi : Int) (p : Int) (l.map rowp) at_ = R (bs (fun c => leO (leR at_) l c (n - 1 - c)) f lo hi)
  | 0, lo, hi, h, hle, hh, hp, hhp, hhn => by
    rw [L_slices_symMergeCmpFunc_api_Val_o2_6_eq, decide_eq_false (by omega)]
    exact hR lo (by omega)
  | f + 1, lo, hi, h, hle, hh, hp, hhp, hhn => by
    rw [L_slices_symMergeCmpFunc_api_Val_o2_6_eq]
    unfold bs
    rcases Nat.lt_or_ge lo hi with c | c
    · have hm : (lo + hi) / 2 < l.length := by omega
      have hq : p - (lo + hi) / 2 < l.length := by omega
      have e1 : IntKind.wrap .i64 ((p : Int) - (((lo + hi) / 2 : Nat) : Int)) = ((p - (lo + hi) / 2 : Nat) : Int) := by rw [wrap64 (by omega) (by omega)]; omega
      rw [if_pos c]
      have e2 : leO (leR at_) l ((lo + hi) / 2) (n - 1 - (lo + hi) / 2) = !decide (cmpB (keyR at_ l[p - (lo + hi) / 2]) (keyR at_ l[(lo + hi) / 2]) < 0) := by
        subst hn; exact leO_get at_ l ((lo + hi) / 2) (n - 1 - (lo + hi) / 2) hm hq
      rw [e2]
      simp only [lt_len c, cond_true, half_w lo hi (by omega), e1, nat_le, Bool.true_and, List.length_map, lt_len hm, lt_len hq, Int.toNat_natCast, List.getElem?_map, List.getElem?_eq_getElem hm, List.getElem?_eq_getElem hq, Option.map_some, Option.bind_some, c_rowp, rowp_fold, w_Sort2, k_5b106d_mk, c_i64_mk]
      cases hd : decide (cmpB (keyR at_ l[p - (lo + hi) / 2]) (keyR at_ l[(lo + hi) / 2]) < 0) with
      | false =>
        simp only [cond_true, Bool.not_false, if_true]
        rw [wrap_succ (by omega)]
        exact bs3_loop at_ a m b mid n p l hl hn R hR f ((lo + hi) / 2 + 1) hi (by omega) (by omega) hh (by omega) hhp hhn
      | true =>
        simp only [cond_false, Bool.not_true, Bool.false_eq_true, if_false]
        exact bs3_loop at_ a m b mid n p l hl hn R hR f lo ((lo + hi) / 2) (by omega) (by omega) (by omega) hp (by omega) (by omega)
    · rw [if_neg (by omega), decide_eq_false (by omega)]
      exact hR lo (by omega)
noncomputable abbrev symW (at_ : Int) (a m b : Nat) (l : List (List Val)) : Option (AV × List Ob) :=
  W n_slices_symMergeCmpFunc_api_Val false [.fx 0 0, .pv (.int .i64 (a : Int)), .pv (.int .i64 (m : Int)), .pv (.int .i64 (b : Int)), .fnv n_bag_Sort_2 [] [.own 1 0]] [.fix 0 0 (l.map rowp), .var false 0 (.pv (.int .i64 at_))]
theorem sym_tail (at_ : Int) (f : Nat) (ih : ∀ (a m b : Nat) (l : List (List Val)), a < m → m < b → b ≤ l.length → l.length ≤ 1000000000 → b - a ≤ f → symW at_ a m b l = tells (symF (leR at_) f a m b l) at_)
    (a m b mid st en : Nat) (l : List (List Val)) (h1 : a < b) (hmid : mid ≤ b) (hma : mid - a ≤ f) (hmb : b - mid ≤ f) (h2 : en ≤ b) (hen : m ≤ en ∨ en ≤ m) (hb : b ≤ l.length) (hl : l.length ≤ 1000000000) :
    (bif decide ((st : Int) < (m : Int)) then J_slices_symMergeCmpFunc_api_Val_o2_7 (a : Int) (m : Int) (b : Int) (mid : Int) (st : Int) (en : Int) (decide ((m : Int) < (en : Int))) (l.map rowp) at_
      else J_slices_symMergeCmpFunc_api_Val_o2_7 (a : Int) (m : Int) (b : Int) (mid : Int) (st : Int) (en : Int) false (l.map rowp) at_) = tells (symS (leR at_) f a m b mid st en l) at_ := by
  have h11 : ∀ (l : List (List Val)), b ≤ l.length → l.length ≤ 1000000000 → J_slices_symMergeCmpFunc_api_Val_o2_10 (b : Int) (mid : Int) (en : Int) (l.map rowp) at_ = tells (if mid < en ∧ en < b then symF (leR at_) f mid en b l else l) at_ := fun l hb hl => by
    rw [J_slices_symMergeCmpFunc_api_Val_o2_10_eq]
    by_cases c1 : mid < en
    · rw [lt_len c1, cond_true, J_slices_symMergeCmpFunc_api_Val_o2_11_eq]
      by_cases c2 : en < b
      · rw [lt_len c2, cond_true, if_pos ⟨c1, c2⟩]
        have := ih mid en b l c1 c2 hb hl hmb
        unfold symW at this
        rw [this]
        simp only [tells, Option.bind_some, k_c4d914_mk]
      · rw [decide_eq_false (by omega), cond_false, if_neg (fun h => c2 h.2)]; rfl
    · rw [decide_eq_false (by omega), cond_false, J_slices_symMergeCmpFunc_api_Val_o2_11_eq, cond_false, if_neg (fun h => c1 h.1)]; rfl
  have h9 : ∀ (l l2 : List (List Val)), l2 = (if a < st ∧ st < mid then symF (leR at_) f a st mid l else l) → b ≤ l.length → l.length ≤ 1000000000 → J_slices_symMergeCmpFunc_api_Val_o2_8 (a : Int) (b : Int) (mid : Int) (st : Int) (en : Int) (l.map rowp) at_ =
      tells (if mid < en ∧ en < b then symF (leR at_) f mid en b l2 else l2) at_ := fun l l2 e hb hl => by
    rw [J_slices_symMergeCmpFunc_api_Val_o2_8_eq]
    by_cases c1 : a < st
    · rw [lt_len c1, cond_true, J_slices_symMergeCmpFunc_api_Val_o2_9_eq]
      by_cases c2 : st < mid
      · rw [if_pos ⟨c1, c2⟩] at e
        subst e
        rw [lt_len c2, cond_true]
        have := ih a st mid l c1 c2 (by omega) hl hma
        unfold symW at this
        rw [this]
        simp only [tells, Option.bind_some, k_c4d914_mk]
        exact h11 _ (by rw [symF_len]; exact hb) (by rw [symF_len]; exact hl)
      · rw [if_neg (fun h => c2 h.2)] at e
        subst e
        rw [decide_eq_false (by omega), cond_false]; exact h11 _ hb hl
    · rw [if_neg (fun h => c1 h.1)] at e
      subst e
      rw [decide_eq_false (by omega), cond_false, J_slices_symMergeCmpFunc_api_Val_o2_9_eq, cond_false]; exact h11 _ hb hl
  have e1 : ∃ l1 : List (List Val), l1 = if st < m ∧ m < en then rotG m (en - st) (m - st) (en - m) l else l := ⟨_, rfl⟩
  obtain ⟨l1, e1⟩ := e1
  have hS : symS (leR at_) f a m b mid st en l = if mid < en ∧ en < b then symF (leR at_) f mid en b (if a < st ∧ st < mid then symF (leR at_) f a st mid l1 else l1) else (if a < st ∧ st < mid then symF (leR at_) f a st mid l1 else l1) := by rw [e1]; rfl
  rw [hS]
  by_cases c1 : st < m
  · rw [lt_len c1, cond_true, J_slices_symMergeCmpFunc_api_Val_o2_7_eq]
    by_cases c2 : m < en
    · rw [if_pos ⟨c1, c2⟩] at e1
      subst e1
      rw [lt_len c2, cond_true, w_rotate at_ st m en l c1 c2 (by omega) hl]
      simp only [tells, Option.bind_some, k_c4d914_mk]
      exact h9 _ _ rfl (by rw [rotG_len]; exact hb) (by rw [rotG_len]; exact hl)
    · rw [if_neg (fun h => c2 h.2)] at e1
      subst e1
      rw [decide_eq_false (by omega), cond_false]; exact h9 _ _ rfl hb hl
  · rw [if_neg (fun h => c1 h.1)] at e1
    subst e1
    rw [decide_eq_false (by omega), cond_false, J_slices_symMergeCmpFunc_api_Val_o2_7_eq, cond_false]; exact h9 _ _ rfl hb hl
theorem w_symMerge (at_ : Int) : ∀ (f a m b : Nat) (l : List (List Val)), a < m → m < b → b ≤ l.length → l.length ≤ 1000000000 → b - a ≤ f → symW at_ a m b l = tells (symF (leR at_) f a m b l) at_
  | 0, a, m, b, l, h1, h2, h3, h4, h5 => by omega
  | f + 1, a, m, b, l, h1, h2, h3, h4, h5 => by
    have em : IntKind.wrap .i64 ((m : Int) - (a : Int)) = ((m - a : Nat) : Int) := by rw [wrap64 (by omega) (by omega)]; omega
    have eb : IntKind.wrap .i64 ((b : Int) - (m : Int)) = ((b - m : Nat) : Int) := by rw [wrap64 (by omega) (by omega)]; omega
    unfold symW
    rw [o_slices_symMergeCmpFunc_api_Val_o2_1, em, eb, symF_succ]
    by_cases c1 : m - a = 1
    · rw [beq_t (by omega), cond_true, if_pos c1, bs1_loop at_ a l (by omega) h4 (b - m) m b (by omega) (by omega) h3]
      have := bs_le (fun h => !leO (leR at_) l a h) (b - m) m b (by omega)
      exact mvR_loop at_ _ _ a l (by omega) (by omega) (by omega) h4
    · rw [beq_f (by omega), cond_false, if_neg c1]
      by_cases c2 : b - m = 1
      · rw [beq_t (by omega), cond_true, if_pos c2, bs2_loop at_ m l (by omega) h4 (m - a) a m (by omega) (by omega) (by omega)]
        have := bs_le (fun h => leO (leR at_) l h m) (m - a) a m (by omega)
        exact mvL_loop at_ _ _ m l (by omega) (by omega) h4
      · rw [beq_f (by omega), cond_false, if_neg c2, half_w a b (by omega)]
        have en : IntKind.wrap .i64 ((((a + b) / 2 : Nat) : Int) + (m : Int)) = (((a + b) / 2 + m : Nat) : Int) := by rw [wrap64 (by omega) (by omega)]; omega
        have ep : IntKind.wrap .i64 ((((a + b) / 2 + m : Nat) : Int) - 1) = (((a + b) / 2 + m - 1 : Nat) : Int) := by rw [wrap64 (by omega) (by omega)]; omega
        rw [en]
        by_cases c3 : m > (a + b) / 2
        · have es : IntKind.wrap .i64 ((((a + b) / 2 + m : Nat) : Int) - (b : Int)) = (((a + b) / 2 + m - b : Nat) : Int) := by rw [wrap64 (by omega) (by omega)]; omega
          have hb := bs_le (fun c => leO (leR at_) l c ((a + b) / 2 + m - 1 - c)) ((a + b) / 2 - ((a + b) / 2 + m - b)) ((a + b) / 2 + m - b) ((a + b) / 2) (by omega)
          rw [decide_eq_true (by omega), cond_true, if_pos c3, es, J_slices_symMergeCmpFunc_api_Val_o2_3_eq, ep]
          have k := bs3_loop at_ a m b ((a + b) / 2) ((a + b) / 2 + m) ((a + b) / 2 + m - 1) l h4 rfl (fun st => (bif decide ((st : Int) < (m : Int)) then J_slices_symMergeCmpFunc_api_Val_o2_7 (a : Int) (m : Int) (b : Int) (((a + b) / 2 : Nat) : Int) (st : Int) (IntKind.wrap .i64 ((((a + b) / 2 + m : Nat) : Int) - (st : Int))) (decide ((m : Int) < IntKind.wrap .i64 ((((a + b) / 2 + m : Nat) : Int) - (st : Int)))) (l.map rowp) at_
            else J_slices_symMergeCmpFunc_api_Val_o2_7 (a : Int) (m : Int) (b : Int) (((a + b) / 2 : Nat) : Int) (st : Int) (IntKind.wrap .i64 ((((a + b) / 2 + m : Nat) : Int) - (st : Int))) false (l.map rowp) at_)) (fun st h => rfl) ((a + b) / 2 - ((a + b) / 2 + m - b)) ((a + b) / 2 + m - b) ((a + b) / 2) (by omega) (by omega) (by omega) (by omega) (by omega) (by omega)
          rw [k]
          generalize bs (fun c => leO (leR at_) l c ((a + b) / 2 + m - 1 - c)) ((a + b) / 2 - ((a + b) / 2 + m - b)) ((a + b) / 2 + m - b) ((a + b) / 2) = st at hb
          have ee : IntKind.wrap .i64 ((((a + b) / 2 + m : Nat) : Int) - (st : Int)) = (((a + b) / 2 + m - st : Nat) : Int) := by rw [wrap64 (by omega) (by omega)]; omega
          rw [ee]
          exact sym_tail at_ f (fun a m b l h1 h2 h3 h4 h5 => w_symMerge at_ f a m b l h1 h2 h3 h4 h5) a m b ((a + b) / 2) st ((a + b) / 2 + m - st) l (by omega) (by omega) (by omega) (by omega) (by omega) (by omega) h3 h4
        · have hb := bs_le (fun c => leO (leR at_) l c ((a + b) / 2 + m - 1 - c)) (m - a) a m (by omega)
          rw [decide_eq_false (by omega), cond_false, if_neg c3, J_slices_symMergeCmpFunc_api_Val_o2_3_eq, ep]
          have k := bs3_loop at_ a m b ((a + b) / 2) ((a + b) / 2 + m) ((a + b) / 2 + m - 1) l h4 rfl (fun st => (bif decide ((st : Int) < (m : Int)) then J_slices_symMergeCmpFunc_api_Val_o2_7 (a : Int) (m : Int) (b : Int) (((a + b) / 2 : Nat) : Int) (st : Int) (IntKind.wrap .i64 ((((a + b) / 2 + m : Nat) : Int) - (st : Int))) (decide ((m : Int) < IntKind.wrap .i64 ((((a + b) / 2 + m : Nat) : Int) - (st : Int)))) (l.map rowp) at_
            else J_slices_symMergeCmpFunc_api_Val_o2_7 (a : Int) (m : Int) (b : Int) (((a + b) / 2 : Nat) : Int) (st : Int) (IntKind.wrap .i64 ((((a + b) / 2 + m : Nat) : Int) - (st : Int))) false (l.map rowp) at_)) (fun st h => rfl) (m - a) a m (by omega) (by omega) (by omega) (by omega) (by omega) (by omega)
          rw [k]
          generalize bs (fun c => leO (leR at_) l c ((a + b) / 2 + m - 1 - c)) (m - a) a m = st at hb
          have ee : IntKind.wrap .i64 ((((a + b) / 2 + m : Nat) : Int) - (st : Int)) = (((a + b) / 2 + m - st : Nat) : Int) := by rw [wrap64 (by omega) (by omega)]; omega
          rw [ee]
          exact sym_tail at_ f (fun a m b l h1 h2 h3 h4 h5 => w_symMerge at_ f a m b l h1 h2 h3 h4 h5) a m b ((a + b) / 2) st ((a + b) / 2 + m - st) l (by omega) (by omega) (by omega) (by omega) (by omega) (by omega) h3 h4
end Go.Cf

namespace Go.Cf
open Go Go.Ab
set_option linter.unusedVariables false
set_option linter.unusedSimpArgs false
theorem pass_len {α : Type} (le : α → α → Bool) (s n : Nat) : ∀ (f a : Nat) (l : List α), (pass le s n f a l).length = l.length
  | 0, _, _ => rfl
  | f + 1, a, l => by
    unfold pass
    split
    · rw [pass_len le s n f, symF_len]
    · split
      · exact symF_len _ _ _ _ _ _
      · rfl
theorem blk1_len {α : Type} (le : α → α → Bool) (n : Nat) : ∀ (f a : Nat) (l : List α), (blk1 le n f a l).length = l.length
  | 0, _, _ => rfl
  | f + 1, a, l => by
    unfold blk1
    split
    · rw [blk1_len le n f]; exact insG_len _ _ _ _ _
    · exact insG_len _ _ _ _ _
theorem stL_loop (at_ : Int) (n : Nat) (hn : n ≤ 1000000000) : ∀ (f s : Nat) (l : List (List Val)), n < f + s → 0 < s → s ≤ 2000000000 → l.length = n →
    L_slices_stableCmpFunc_api_Val_o2_2 (n : Int) (s : Int) (l.map rowp) at_ = tells (stL (leR at_) n f s l) at_
  | 0, s, l, h, h0, hs, hl => by
    rw [L_slices_stableCmpFunc_api_Val_o2_2_eq, decide_eq_false (by omega)]; rfl
  | f + 1, s, l, h, h0, hs, hl => by
    rw [L_slices_stableCmpFunc_api_Val_o2_2_eq]
    unfold stL
    by_cases c : s < n
    · have e1 : IntKind.wrap .i64 ((2 : Int) * (s : Int)) = ((2 * s : Nat) : Int) := by rw [wrap64 (by omega) (by omega)]; omega
      have e2 : IntKind.wrap .i64 ((s : Int) * (2 : Int)) = ((2 * s : Nat) : Int) := by rw [wrap64 (by omega) (by omega)]; omega
      rw [lt_len c, cond_true, if_pos c, e1]
      have key : ∀ (g a : Nat) (l : List (List Val)), n < a + g → a ≤ n → l.length = n → L_slices_stableCmpFunc_api_Val_o2_3 (n : Int) (s : Int) (a : Int) ((a + 2 * s : Nat) : Int) (l.map rowp) at_ = tells (stL (leR at_) n f (2 * s) (pass (leR at_) s n g a l)) at_ := by
        intro g
        induction g with
        | zero => intro a l h1 h2 h3; omega
        | succ g ih =>
          intro a l h1 h2 h3
          have e3 : IntKind.wrap .i64 ((a : Int) + (s : Int)) = ((a + s : Nat) : Int) := by rw [wrap64 (by omega) (by omega)]; omega
          have e4 : IntKind.wrap .i64 (((a + 2 * s : Nat) : Int) + ((2 * s : Nat) : Int)) = ((a + 2 * s + 2 * s : Nat) : Int) := by rw [wrap64 (by omega) (by omega)]; omega
          rw [L_slices_stableCmpFunc_api_Val_o2_3_eq, e3]
          unfold pass
          by_cases c1 : a + 2 * s ≤ n
          · have hm := w_symMerge at_ (2 * s) a (a + s) (a + 2 * s) l (by omega) (by omega) (by omega) (by omega) (by omega)
            unfold symW at hm
            rw [decide_eq_true (by omega), cond_true, if_pos c1, hm]
            simp only [tells, Option.bind_some, k_c4d914_mk, e1, e4]
            exact ih (a + 2 * s) _ (by omega) c1 (by rw [symF_len]; exact h3)
          · rw [decide_eq_false (by omega), cond_false, if_neg c1]
            by_cases c2 : a + s < n
            · have hm := w_symMerge at_ (n - a) a (a + s) n l (by omega) (by omega) (by omega) (by omega) (by omega)
              unfold symW at hm
              rw [lt_len c2, cond_true, if_pos c2, hm]
              simp only [tells, Option.bind_some, k_c4d914_mk, e2]
              exact stL_loop at_ n hn f (2 * s) _ (by omega) (by omega) (by omega) (by rw [symF_len]; exact h3)
            · rw [decide_eq_false (by omega), cond_false, if_neg c2, e2]
              exact stL_loop at_ n hn f (2 * s) l (by omega) (by omega) (by omega) h3
      have := key (n + 1) 0 l (by omega) (by omega) hl
      rw [Nat.zero_add] at this
      exact this
    · rw [decide_eq_false (by omega), cond_false, if_neg c]; rfl
theorem blk_loop (at_ : Int) (n : Nat) (hn : n ≤ 1000000000) : ∀ (f a : Nat) (l : List (List Val)), n < a + f → a ≤ n → l.length = n →
    L_slices_stableCmpFunc_api_Val_o2_1 (n : Int) 20 (a : Int) ((a + 20 : Nat) : Int) (l.map rowp) at_ = tells (stL (leR at_) n n 20 (blk1 (leR at_) n f a l)) at_
  | 0, a, l, h, ha, hl => by omega
  | f + 1, a, l, h, ha, hl => by
    rw [L_slices_stableCmpFunc_api_Val_o2_1_eq]
    unfold blk1
    by_cases c : a + 20 ≤ n
    · have hi := w_insertion at_ a (a + 20) l (by omega) (by omega) (by omega)
      rw [decide_eq_true (by omega), cond_true, if_pos c, hi]
      have e1 : IntKind.wrap .i64 (((a + 20 : Nat) : Int) + 20) = ((a + 20 + 20 : Nat) : Int) := by rw [wrap64 (by omega) (by omega)]; omega
      simp only [tells, Option.bind_some, k_c4d914_mk, e1]
      exact blk_loop at_ n hn f (a + 20) _ (by omega) c (by unfold insB; rw [insG_len]; exact hl)
    · have hi := w_insertion at_ a n l (by omega) ha (by omega)
      rw [decide_eq_false (by omega), cond_false, if_neg c, hi]
      simp only [tells, Option.bind_some, k_c4d914_mk]
      exact stL_loop at_ n hn n 20 _ (by omega) (by omega) (by omega) (by unfold insB; rw [insG_len]; exact hl)
def sortR (at_ : Int) (l : List (List Val)) : List (List Val) := stL (leR at_) l.length l.length 20 (blk1 (leR at_) l.length (l.length + 1) 0 l)
theorem sortR_spec (at_ : Int) (l : List (List Val)) : Srt (leR at_) (sortR at_ l) ∧ Keeps (leR at_) l (sortR at_ l) := stable_spec (leR at_) (leR_total at_) (leR_trans at_) l
theorem w_SortStable (at_ : Int) (l : List (List Val)) (hl : l.length ≤ 1000000000) :
    W n_slices_SortStableFunc_api_Val_api_Val false [.fx 0 0, .fnv n_bag_Sort_2 [] [.own 1 0]] [.fix 0 0 (l.map rowp), .var false 0 (.pv (.int .i64 at_))] = tells (sortR at_ l) at_ := by
  rw [o_slices_SortStableFunc_api_Val_api_Val_o2_1, o_slices_stableCmpFunc_api_Val_o2_1, List.length_map]
  have := blk_loop at_ l.length hl (l.length + 1) 0 l (by omega) (by omega) rfl
  rw [Nat.zero_add] at this
  simp only [Int.cast_ofNat_Int] at this
  rw [this]
  simp only [tells, Option.bind_some, k_c4d914_mk]
  rfl
theorem some_loop (D E : List PV) (c : List Int) (l : List (List Val)) (hl : l.length ≤ 1000000000) (hr : ∀ x ∈ l, x.length ≤ 4294967296) : ∀ (k i : Nat) (acc : List (List Val)), i + k = l.length → acc.length = i →
    L_bag_some_r0_1 (l.map rowp) (l.length : Int) (i : Int) D E (c.map intp) (acc.map rowp) = some (.agg [.pv (.slice 0 (c.map intp)), .view 0 0 none], [.row false 0 0 ((acc ++ l.drop i).map rowp)])
  | 0, i, acc, h, ha => by
    rw [L_bag_some_r0_1_eq, show i = l.length by omega]
    simp only [ge_len, cond_false, List.drop_length, List.append_nil]
  | k + 1, i, acc, h, ha => by
    have hi : i < l.length := by omega
    rw [L_bag_some_r0_1_eq]
    have hc := x_slices_Clone_api_Val_api_Val (l[i].map Val.pv) (by rw [List.length_map]; exact hr _ (List.getElem_mem hi))
    have hb := e_bag_Sort_1 (l[i].map Val.pv)
    rw [rowp_fold] at hc hb
    simp only [lt_len hi, nat_le, cond_true, Int.toNat_natCast, List.getElem?_map, List.getElem?_eq_getElem hi, Option.map_some, Option.bind_some, c_rowp, rowp_fold, hb, hc, c_b_mk, List.length_map, Bool.true_and, decide_eq_true (show acc.length + 1 ≤ 4294967296 by omega)]
    rw [wrap_succ (by omega)]
    have := some_loop D E c l hl hr k (i + 1) (acc ++ [l[i]]) (by omega) (by simp [ha])
    rw [List.map_append] at this
    rw [show [rowp l[i]] = [l[i]].map rowp from rfl, this, List.drop_eq_getElem_cons hi, List.append_assoc]; rfl
def sortB (c : List Int) (r : List (List Val)) (col : Int) : List (List Val) := sortR (idxI c (fun x => col == x)) r
theorem w_Sort (c : List Int) (r : List (List Val)) (col : Int) (hc : c.length ≤ 4294967296) (hl : r.length ≤ 1000000000) (hr : ∀ x ∈ r, x.length ≤ 4294967296) : wc W n_bag_Sort [bagp c r, .int .i64 col] = some (bagp c (sortB c r col)) := by
  have h := e_bag_Sort (c.map intp) (r.map rowp) col
  have h2 := o_bag_some_r0_1 (c.map intp) (r.map rowp)
  have h3 := x_slices_Clone_int_int (c.map intp) (by rw [List.length_map]; exact hc)
  have h4 := some_loop [] [] c r hl hr r.length 0 [] (by omega) rfl
  simp only [List.map_nil, List.nil_append, List.drop_zero] at h4
  rw [h3] at h2
  simp only [Option.bind_some, c_s0_mk, List.length_map] at h2
  rw [show ((0 : Nat) : Int) = 0 from rfl] at h4
  rw [h4] at h2
  rw [intsp_fold, tabp_fold, bagp_fold] at h h2
  rw [h, h2, w_Index c col (by omega)]
  unfold intsp
  simp only [Option.bind_some, k_8de13e_mk, c_i64_mk]
  rw [w_SortStable _ r hl]
  simp only [tells, Option.bind_some, k_c4d914_mk]
  rfl
theorem w_Sorted1 (r s : List Val) (at_ : Int) : W n_bag_Sorted_1 false [.pv (rowp r), .pv (rowp s), .own 0 0] [.var false 0 (.pv (.int .i64 at_))] = some (.pv (.int .i64 (cmpB (keyR at_ r) (keyR at_ s))), [.var false 0 (.pv (.int .i64 at_))]) := by
  have h := o_bag_Sorted_1_o1_1 (r.map Val.pv) (s.map Val.pv) at_
  rw [rowp_fold, rowp_fold, w_of, w_of] at h
  have c := w_compare (keyR at_ r) (keyR at_ s)
  simp only [Option.bind_some, c_g_i64_i64_mk, c, c_i64_mk] at h
  exact h
def ordB (at_ : Int) : List (List Val) → Bool
  | [] => true
  | [_] => true
  | x :: y :: r => leR at_ x y && ordB at_ (y :: r)
theorem ordB_iff (at_ : Int) : ∀ (l : List (List Val)), ordB at_ l = true ↔ Srt (leR at_) l
  | [] => by simp [ordB]
  | [x] => by simp [ordB]
  | x :: y :: r => by
    unfold ordB
    rw [Bool.and_eq_true, ordB_iff at_ (y :: r)]
    constructor
    · rintro ⟨h1, h2⟩
      refine List.pairwise_cons.2 ⟨fun z hz => ?_, h2⟩
      rcases List.mem_cons.1 hz with rfl | hz
      · exact h1
      · exact leR_trans at_ _ _ _ h1 ((List.pairwise_cons.1 h2).1 z hz)
    · intro h
      have := List.pairwise_cons.1 h
      exact ⟨this.1 y (by simp), this.2⟩
theorem sorted_loop (at_ : Int) (l : List (List Val)) (hl : l.length ≤ 1000000000) : ∀ (i : Nat), i < l.length → ordB at_ (l.drop i) = true →
    L_slices_IsSortedFunc_api_Val_api_Val_o1_1 (l.map rowp) (i : Int) at_ = some (.pv (.bool (ordB at_ l)), [.var false 0 (.pv (.int .i64 at_))])
  | 0, h, ho => by
    rw [L_slices_IsSortedFunc_api_Val_api_Val_o1_1_eq]
    rw [List.drop_zero] at ho
    rw [ho]; rfl
  | i + 1, h, ho => by
    have hi : i < l.length := by omega
    have e1 : IntKind.wrap .i64 (((i + 1 : Nat) : Int) - 1) = (i : Int) := by rw [wrap64 (by omega) (by omega)]; omega
    have hb := w_Sorted1 l[i + 1] l[i] at_
    rw [L_slices_IsSortedFunc_api_Val_api_Val_o1_1_eq, decide_eq_true (show ((i + 1 : Nat) : Int) > 0 by omega)]
    simp only [e1, cond_true, nat_le, Int.toNat_natCast, List.getElem?_map, List.getElem?_eq_getElem h, List.getElem?_eq_getElem hi, Option.map_some, Option.bind_some, c_rowp, rowp_fold, hb, k_5b106d_mk, c_i64_mk]
    have hd : ordB at_ (l.drop i) = (leR at_ l[i] l[i + 1] && ordB at_ (l.drop (i + 1))) := by
      rw [List.drop_eq_getElem_cons hi, List.drop_eq_getElem_cons h]; rfl
    cases hc : decide (cmpB (keyR at_ l[i + 1]) (keyR at_ l[i]) < 0) with
    | true =>
      have hle : leR at_ l[i] l[i + 1] = false := by unfold leR; rw [hc]; rfl
      have hno : ordB at_ l = false := by
        rw [Bool.eq_false_iff]
        intro ht
        have := (ordB_iff at_ l).1 ht
        have := (ordB_iff at_ (l.drop i)).2 (this.sublist (List.drop_sublist _ _))
        rw [hd, hle] at this; cases this
      rw [hno]; rfl
    | false =>
      have hle : leR at_ l[i] l[i + 1] = true := by unfold leR; rw [hc]; rfl
      simp only [cond_false]
      exact sorted_loop at_ l hl i hi (by rw [hd, hle, ho]; rfl)
theorem w_Sorted (c : List Int) (r : List (List Val)) (col : Int) (hc : c.length ≤ 9223372036854775807) (hl : r.length ≤ 1000000000) : wc W n_bag_Sorted [bagp c r, .int .i64 col] = some (.bool (ordB (idxI c (fun x => col == x)) r)) := by
  have h := e_bag_Sorted (c.map intp) (r.map rowp) col
  rw [intsp_fold, tabp_fold, bagp_fold] at h
  rw [h, w_Index c col hc]
  simp only [Option.bind_some, c_i64_mk]
  have h2 := o_slices_IsSortedFunc_api_Val_api_Val_o1_1 (r.map rowp) (idxI c (fun x => col == x))
  rw [tabp_fold, List.length_map] at h2
  rw [h2]
  rcases Nat.eq_zero_or_pos r.length with h0 | h0
  · have : r = [] := List.length_eq_zero_iff.1 h0
    subst this
    rw [L_slices_IsSortedFunc_api_Val_api_Val_o1_1_eq]
    rfl
  · have e1 : IntKind.wrap .i64 ((r.length : Int) - 1) = ((r.length - 1 : Nat) : Int) := by rw [wrap64 (by omega) (by omega)]; omega
    rw [e1, sorted_loop _ r hl (r.length - 1) (by omega) (by
      rw [List.drop_eq_getElem_cons (by omega), List.drop_of_length_le (by omega)]; rfl)]
    simp only [Option.bind_some, k_5b106d_mk, c_b_mk]
end Go.Cf

namespace Go.Cf
open Go Go.Ab
set_option linter.unusedVariables false
set_option linter.unusedSimpArgs false
theorem law_BagSorts (a : List Int × List (List Val)) (col : Int) (ha : Bag0 a) (hcol : I64 col) :
    wc W n_roadbooklaw03_BagSorts [bagp a.1 a.2, .int .i64 col] = some (.bool true) := by
  obtain ⟨c, r⟩ := a
  have h := e_roadbooklaw03_BagSorts (c.map intp) (r.map rowp) col
  rw [intsp_fold, tabp_fold, bagp_fold] at h
  have k1 := w_few c r 60 ha.2.1
  simp only [Int.cast_ofNat_Int] at k1
  rw [h, w_awake3, k1]
  simp only [Option.bind_some, c_b_mk, Bool.not_true, cond_false]
  cases hx : fewB c r 60 with
  | false => rfl
  | true =>
  obtain ⟨x1, x2, x3⟩ := fewB_of hx
  have rr : ∀ x ∈ r, ROk x ∧ x.length ≤ 20 := fun x hx => ⟨(ha.2.2 x hx).2, x3 x hx⟩
  obtain ⟨s1, s2⟩ := sortR_spec (idxI c (fun x => col == x)) r
  have e1 : sortB c r col = sortR (idxI c (fun x => col == x)) r := rfl
  have hl : (sortB c r col).length = r.length := by rw [e1]; exact s2.perm.length_eq
  have ss : ∀ x ∈ sortB c r col, ROk x ∧ x.length ≤ 20 := fun x hx => rr x (s2.perm.mem_iff.1 (by rw [e1] at hx; exact hx))
  have again : sortB c (sortB c r col) col = sortB c r col := (sortR_spec (idxI c (fun x => col == x)) (sortB c r col)).2.same s1
  have w1 := w_Sort c r col (by omega) (by omega) (fun x hx => by have := (rr x hx).2; omega)
  have w2 := w_Sorted c (sortB c r col) col (by omega) (by omega)
  have w3 := w_Same c (sortB c r col) c r (by omega) (by omega) (by omega) (fun x hx => ⟨(ss x hx).1, by have := (ss x hx).2; omega⟩) (fun x hx => ⟨(rr x hx).1, by have := (rr x hx).2; omega⟩)
  have w4 := w_Sort c (sortB c r col) col (by omega) (by omega) (fun x hx => by have := (ss x hx).2; omega)
  have w5 := w_Like c (sortB c r col) c (sortB c r col) (by omega) (by omega) (fun x hx => by have := (ss x hx).2; omega)
  have w6 := w_Sorted c r col (by omega) (by omega)
  have w7 := w_Like c (sortB c r col) c r (by omega) (by omega) (fun x hx => by have := (ss x hx).2; omega)
  rw [← e1] at s1 s2
  rw [(ordB_iff _ _).2 s1] at w2
  rw [same_perm s2.perm] at w3
  rw [again] at w4
  simp only [Bool.not_true, cond_false, J_roadbooklaw03_BagSorts_1_eq, J_roadbooklaw03_BagSorts_2_eq, intsp_fold, tabp_fold, bagp_fold, w1, w2, w3, w4, w5, w6, w7, Option.bind_some, c_bagp, c_b_mk, decide_true, Bool.and_self, Bool.not_true, cond_false]
  cases ho : ordB (idxI c (fun x => col == x)) r with
  | false => rfl
  | true =>
    have e2 : sortB c r col = r := s2.same ((ordB_iff _ _).1 ho)
    rw [e2]; simp
end Go.Cf
