/- Reading a text: the text of a tree is read as it, and what is read has that text. -/
import Derived.Test.YtdegbnjnbpjdfaaTText
import Derived.Test.YtdegbnjnbpjdfaaT3
import Derived.Laws.RangeString
import Derived.Laws.RangeAny
namespace Go.Proofs.Ytdegbnjnbpjdfaa.T
open Go.RowKit Go.Proofs.YtdegbnjnbpjdfaaW.PrintWords Go.Proofs.YtdegbnjnbpjdfaaW.PrintLast Go.Proofs.YtdegbnjnbpjdfaaW.PrintMore
set_option linter.unusedVariables false
set_option linter.unusedSimpArgs false
theorem drop_byte {s : ByteArray} {p : Nat} {c : UInt8} {post : List UInt8} (h : s.data.toList.drop p = c :: post) : ∃ hp : p < s.size, s[p] = c ∧ s.data.toList.drop (p + 1) = post := by
  have hp : p < s.data.toList.length := by
    rcases Nat.lt_or_ge p s.data.toList.length with h' | h'
    · exact h'
    · rw [List.drop_eq_nil_of_le h'] at h; cases h
  have hp' : p < s.size := by rw [size_data]; exact hp
  rw [List.drop_eq_getElem_cons hp] at h
  injection h with h1 h2
  exact ⟨hp', by rw [← h1]; rfl, h2⟩
theorem go_step {s : ByteArray} {p n : Nat} {c : UInt8} {post : List UInt8} {d : List Tr} {f : List Int} (h : s.data.toList.drop p = c :: post) (hc : c.toNat < 128) : readGo s (n + 1) p d f = (readStep (c.toNat : Int) d f).bind fun x => readGo s n (p + 1) x.1 x.2 := by
  obtain ⟨hp, h1, _⟩ := drop_byte h
  simp only [readGo]
  rw [if_pos hp, decode_ascii s p hp (by rw [h1]; exact hc), h1]
theorem step_open (d : List Tr) (f : List Int) : readStep 40 d f = some (d, f ++ [(d.length : Int)]) := by unfold readStep; rw [if_pos rfl]
theorem step_leaf (o : Int) (h0 : 0 ≤ o) (h1 : o < 4) (d : List Tr) (f : List Int) : readStep (48 + o) d f = some (d ++ [⟨o, []⟩], f) := by
  unfold readStep
  rw [if_neg (by omega), if_pos (by omega), show 48 + o - 48 = o by omega]
theorem step_shut (d : List Tr) (a b : Tr) (f : List Int) : readStep 41 ((d ++ [a]) ++ [b]) (f ++ [(d.length : Int)]) = some (d ++ [⟨0, [a, b]⟩], f) := by
  have hl : (((d ++ [a]) ++ [b]).length) = d.length + 2 := by simp
  have hf : (f ++ [(d.length : Int)]).length = f.length + 1 := by simp
  have hr : rd (f ++ [(d.length : Int)]) (((f ++ [(d.length : Int)]).length - 1 : Nat) : Int) = (d.length : Int) := by
    unfold rd
    rw [Int.toNat_natCast, hf, Nat.add_sub_cancel, List.getD_eq_getElem?_getD, List.getElem?_append_right (by omega)]
    simp
  unfold readStep
  rw [if_neg (by decide), if_neg (by decide), if_pos ⟨rfl, by omega, by rw [hr, hl]; omega⟩, hl, hf, Nat.add_sub_cancel, Nat.add_sub_cancel]
  have e1 : ((d ++ [a]) ++ [b]).take d.length = d := by rw [List.append_assoc, List.take_left']; rfl
  have e2 : (f ++ [(d.length : Int)]).take f.length = f := by rw [List.take_left']; rfl
  have e3 : rd_T39 ((d ++ [a]) ++ [b]) ((d.length : Nat) : Int) = a := by
    rw [rd_nat _ _ (by omega)]; simp [List.getElem_append]
  have e4 : rd_T39 ((d ++ [a]) ++ [b]) ((d.length + 1 : Nat) : Int) = b := by
    rw [rd_nat _ _ (by omega)]; simp [List.getElem_append]
  rw [e1, e2, e3, e4]
theorem go_text : ∀ (e : Nat) (t : Tr), (setV e t).2 = true → ∀ (s : ByteArray) (p n : Nat) (d : List Tr) (f : List Int) (post : List UInt8), s.data.toList.drop p = tx e t ++ post → readGo s ((tx e t).length + n) p d f = readGo s n (p + (tx e t).length) (d ++ [t]) f ∧ s.data.toList.drop (p + (tx e t).length) = post
  | 0, t, h => by simp [setV] at h
  | e + 1, t, h => by
    intro s p n d f post hs
    have hpost : s.data.toList.drop (p + (tx (e + 1) t).length) = post := by
      rw [← List.drop_drop, hs]; simp
    refine ⟨?_, hpost⟩
    rcases good_cases h with ⟨o, rfl, h0, h1⟩ | ⟨a, b, rfl, ha, hb, _⟩
    · rw [tx_leaf, rune_leaf o h0 h1] at hs ⊢
      have hc : ((UInt8.ofNat (48 + o.toNat)).toNat : Int) = 48 + o := by
        have : o = 0 ∨ o = 1 ∨ o = 2 ∨ o = 3 := by omega
        rcases this with rfl | rfl | rfl | rfl <;> rfl
      simp only [List.length_singleton]
      rw [Nat.add_comm 1 n, go_step (post := post) hs (by omega), hc, step_leaf o h0 h1, Option.bind_some]
    · rw [tx_two] at hs ⊢
      simp only [List.cons_append, List.append_assoc] at hs
      obtain ⟨_, _, hs1⟩ := drop_byte hs
      simp only [List.length_cons, List.length_append, List.length_nil]
      have hn : (tx e a).length + ((tx e b).length + (0 + 1)) + 1 + n = ((tx e a).length + ((tx e b).length + (n + 1))) + 1 := by omega
      rw [hn, go_step hs (by decide)]
      have h40 : (((40 : UInt8).toNat : Nat) : Int) = 40 := rfl
      rw [h40, step_open, Option.bind_some]
      obtain ⟨g1, hs2⟩ := go_text e a ha s (p + 1) ((tx e b).length + (n + 1)) d (f ++ [(d.length : Int)]) _ hs1
      simp only
      rw [g1]
      obtain ⟨g2, hs3⟩ := go_text e b hb s (p + 1 + (tx e a).length) (n + 1) (d ++ [a]) (f ++ [(d.length : Int)]) _ hs2
      rw [g2, go_step hs3 (by decide)]
      have h41 : (((41 : UInt8).toNat : Nat) : Int) = 41 := rfl
      rw [h41, step_shut, Option.bind_some]
      congr 1; omega
/-- what has been built of signs -/
inductive Built : Tr → List UInt8 → Prop where
  | leaf (o : Int) (h0 : 0 ≤ o) (h1 : o < 4) : Built ⟨o, []⟩ [UInt8.ofNat (48 + o.toNat)]
  | two (a b : Tr) (u v : List UInt8) (ha : Built a u) (hb : Built b v) : Built ⟨0, [a, b]⟩ (40 :: (u ++ (v ++ [41])))
theorem built_tx : ∀ (e : Nat) (t : Tr) (u : List UInt8), (setV e t).2 = true → Built t u → u = tx e t
  | 0, t, u, h, _ => by simp [setV] at h
  | e + 1, t, u, h, hB => by
    cases hB with
    | leaf o h0 h1 => rw [tx_leaf, rune_leaf o h0 h1]
    | two a b u v ha hb =>
      rcases good_cases h with ⟨o, he, _⟩ | ⟨a', b', he, ha', hb', _⟩
      · have := (tr_ext.1 he).2; simp at this
      · have := (tr_ext.1 he).2
        simp only [List.cons.injEq, and_true] at this
        obtain ⟨rfl, rfl⟩ := this
        rw [tx_two, built_tx e a u ha' ha, built_tx e b v hb' hb]
/-- what is done, where the open ones begin, and the signs that have been read -/
inductive St : List Tr → List Int → List UInt8 → Prop where
  | start : St [] [] []
  | opened (d : List Tr) (f : List Int) (w : List UInt8) (h : St d f w) : St d (f ++ [(d.length : Int)]) (w ++ [40])
  | done (d : List Tr) (f : List Int) (w u : List UInt8) (t : Tr) (h : St d f w) (ht : Built t u) : St (d ++ [t]) f (w ++ u)
theorem St.le {d : List Tr} {f : List Int} {w : List UInt8} (h : St d f w) : ∀ x ∈ f, x ≤ (d.length : Int) := by
  induction h with
  | start => simp
  | opened d f w h ih =>
    intro x hx
    rcases List.mem_append.1 hx with hx | hx
    · exact ih x hx
    · rw [List.mem_singleton.1 hx]; exact Int.le_refl _
  | done d f w u t h ht ih =>
    intro x hx
    have := ih x hx
    rw [List.length_append, List.length_singleton]; omega
theorem St.nonneg {d : List Tr} {f : List Int} {w : List UInt8} (h : St d f w) : ∀ x ∈ f, 0 ≤ x := by
  induction h with
  | start => simp
  | opened d f w h ih =>
    intro x hx
    rcases List.mem_append.1 hx with hx | hx
    · exact ih x hx
    · rw [List.mem_singleton.1 hx]; omega
  | done d f w u t h ht ih => exact ih
theorem St.last {d : List Tr} {f : List Int} {w : List UInt8} (h : St d f w) : ∀ {d0 : List Tr} {t : Tr} {f0 : List Int} {x : Int}, d = d0 ++ [t] → f = f0 ++ [x] → x ≤ (d0.length : Int) → ∃ w0 u, w = w0 ++ u ∧ St d0 f w0 ∧ Built t u := by
  intro d0 t f0 x hd hf hx
  cases h with
  | start => simp at hd
  | opened d f' w h =>
    have := List.append_inj' hf rfl
    have e := this.2
    simp only [List.cons.injEq, and_true] at e
    rw [hd] at e
    rw [List.length_append, List.length_singleton] at e
    omega
  | done d' f w u t' h ht =>
    have := List.append_inj' hd rfl
    obtain ⟨rfl, e⟩ := this
    simp only [List.cons.injEq, and_true] at e
    subst e
    exact ⟨w, u, rfl, h, ht⟩
theorem St.shut {d : List Tr} {f : List Int} {w : List UInt8} {a b : Tr} (h : St (d ++ [a] ++ [b]) (f ++ [(d.length : Int)]) w) : St (d ++ [⟨0, [a, b]⟩]) f (w ++ [41]) := by
  obtain ⟨w1, v, rfl, h1, hb⟩ := h.last (d0 := d ++ [a]) rfl rfl (by simp; omega)
  obtain ⟨w2, u, rfl, h2, ha⟩ := h1.last (d0 := d) rfl rfl (Int.le_refl _)
  generalize hf : f ++ [(d.length : Int)] = g at h2
  cases h2 with
  | start => simp at hf
  | opened d f' w3 h3 =>
    have := List.append_inj' hf rfl
    obtain ⟨rfl, _⟩ := this
    have := St.done d f w3 _ _ h3 (Built.two a b u v ha hb)
    simpa using this
  | done d' f' w3 u' t' h3 ht =>
    subst hf
    have := h3.le (d'.length + 1 : Int) (List.mem_append.2 (.inr (by simp)))
    omega
end Go.Proofs.Ytdegbnjnbpjdfaa.T
