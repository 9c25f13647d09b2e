/- Part 8 of the proof: an abstract machine that runs the program's code over plain values, its soundness, and what the functions tell of plain values. Conditions: those in each theorem. -/
import Derived.Test.YtgebkpchpliahaaGreatA6
import Derived.Orders
set_option linter.unusedSectionVars false
namespace Go.Ab
set_option linter.unusedVariables false
set_option linter.unusedSimpArgs false
variable [GL : Gl]

section
variable {c : Cfg} {call : Wf} {own : Hi} {ops : Array Oper}

theorem any_congr {xs : List Operand} {r1 r2 : Operand → TypeId → AV} (h : ∀ x ∈ xs, ∀ t, r1 x t = r2 x t) :
    (xs.any fun x => isOw (r1 x 0)) = xs.any fun x => isOw (r2 x 0) := by
  induction xs with
  | nil => rfl
  | cons x l ih => simp only [List.any_cons, h x (by simp) 0, ih fun y hy => h y (by simp [hy])]

theorem touch_congr {o : Oper} {r1 r2 : Operand → TypeId → AV} (h : ∀ x, x ∈ o.op.operands → ∀ t, r1 x t = r2 x t) : touch own o r1 = touch own o r2 := by
  unfold touch
  cases hop : o.op <;> rw [hop] at h <;> simp only [Op.operands] at h <;> simp only
  case move x => simp only [h x (by simp)]
  case assign x => simp only [h x (by simp)]
  case box t x => simp only [List.any_cons, List.any_nil, h x (by simp)]
  case buildSlice t n ps =>
    rw [any_congr (r1 := r1) (r2 := r2) fun x hx t => h x (by simpa using hx) t]
  case load t x => simp only [List.any_cons, List.any_nil, h x (by simp)]
  case makeFunc f fi cs =>
    rw [any_congr (r1 := r1) (r2 := r2) fun x hx t => h x (by simpa using hx) t]
  case lookup t x i ok => simp only [List.any_cons, List.any_nil, h x (by simp), h i (by simp)]
  case field s x f => simp only [List.any_cons, List.any_nil, h x (by simp)]
  case indexAddr t x i => simp only [List.any_cons, List.any_nil, h x (by simp)]
  case index t x i => simp only [List.any_cons, List.any_nil, h x (by simp)]
  case slice t x lo hi mx => simp only [List.any_cons, List.any_nil, h x (by simp)]
  case call cl =>
    obtain ⟨ce, args, ats⟩ := cl
    simp only [Call.operands] at h
    have ha : ∀ x, x ∈ args.toList → ∀ t, r1 x t = r2 x t := fun x hx t => h x (by simp [Array.mem_toList_iff.1 hx]) t
    have he := any_congr (r1 := r1) (r2 := r2) ha
    cases ce with
    | value f => simp only [he, openNow_congr (own := own) (o := o) (h f (by simp) 0) (fun x hx => ha x hx 0)]
    | invoke x m => rfl
    | builtin b =>
      cases b <;> try rfl
      · simp only
        rcases hl : args.toList with _ | ⟨s, _ | ⟨x, _ | ⟨z, l⟩⟩⟩ <;> try rfl
        simp only [ha s (by rw [hl]; simp), List.any_cons, List.any_nil, ha x (by rw [hl]; simp)]
      · simp only [he]

theorem rho_looks {o : Oper} {fr fr' : List (Nat × AV)} (h : ∀ s ∈ o.looksAt ops, get fr' s = get fr s) (x : Operand) (hx : x ∈ o.op.operands) (t : TypeId) : ρ fr' x t c = ρ fr x t c := by
  cases x with
  | tmp s =>
    refine h s (List.mem_append_left _ (List.mem_filterMap.2 ⟨.tmp s, by simpa using hx, rfl⟩))
  | _ => rfl

theorem guard_looks {o : Oper} {j d : Nat} {want : Bool} (hg : o.guard = some (j, want)) (hd : (ops[j]?).bind (·.dst) = some d) : d ∈ o.looksAt ops := by
  refine List.mem_append_right _ ?_
  simp only [hg, hd]
  simp

theorem OneStep.congr {o : Oper} {fr fr' : List (Nat × AV)} {ow ow' : List Ob} {av : AV} {t : Nat} (h : OneStep c call own ops o fr ow av ow' t) (e : ∀ s ∈ o.looksAt ops, get fr' s = get fr s) :
    OneStep c call own ops o fr' ow av ow' t := by
  cases h with
  | run _ _ h hg =>
    have h1 : ∀ x, x ∈ o.op.operands → ∀ t, (fun x t => ρ fr x t c) x t = (fun x t => ρ fr' x t c) x t := fun x hx t => (rho_looks e x hx t).symm
    rw [opD_congr h1] at h
    rw [touch_congr h1]
    exact .run av ow' h fun j want hj => by
      obtain ⟨d, h2, h3⟩ := hg j want hj
      exact ⟨d, h2, by rw [e d (guard_looks hj h2)]; exact h3⟩
  | skip j want hg d hd hp => exact .skip j want hg d hd (by rw [e d (guard_looks hg hd)]; exact hp)

theorem OneStep.keeps {o : Oper} {fr : List (Nat × AV)} {ow ow' : List Ob} {av : AV} {t : Nat} (h : OneStep c call own ops o fr ow av ow' t) (ht : t ≠ 2) : ow' = ow := by
  cases h with
  | run _ _ h hg => exact touch_keeps (rho_even c fr) ht _ _ h
  | skip => rfl

theorem OneStep.free {o : Oper} {fr : List (Nat × AV)} {ow ow' : List Ob} {av : AV} {t : Nat} (h : OneStep c call own ops o fr ow av ow' t) (ht : t = 0) (ow2 : List Ob) : OneStep c call own ops o fr ow2 av ow2 t := by
  cases h with
  | run _ _ h hg =>
    obtain ⟨g, h1⟩ := touch_free (c := c) (call := call) (rho_even c fr) ht
    have h2 := h1 ow
    have h3 := h1 ow2
    simp only at h2 h3
    rw [h] at h2
    cases g with
    | none => cases h2
    | some a =>
      simp at h2
      obtain ⟨rfl, rfl⟩ := h2
      exact .run _ _ h3 hg
  | skip j want hg d hd hp => exact .skip j want hg d hd hp

theorem get_putD_ne {dst : Option Tmp} {a : AV} {fr : List (Nat × AV)} {s : Nat} (h : ∀ d, dst = some d → d ≠ s) : get (putD dst a fr) s = get fr s := by
  cases dst with
  | none => rfl
  | some d => simp only [putD, get_put, if_neg (h d rfl)]

theorem putD_comm {d1 d2 : Option Tmp} {a b : AV} {fr : List (Nat × AV)} (h : ∀ d, d1 = some d → d2 ≠ some d) : get (putD d1 a (putD d2 b fr)) = get (putD d2 b (putD d1 a fr)) := by
  cases d1 with
  | none => rfl
  | some d =>
    cases d2 with
    | none => rfl
    | some e =>
      have hne : d ≠ e := fun x => h d rfl (x ▸ rfl)
      funext s
      simp only [putD, get_put]
      by_cases h1 : d = s
      · subst h1; simp [Ne.symm hne]
      · simp [h1]

theorem putD_congr {dst : Option Tmp} {a : AV} {fr fr' : List (Nat × AV)} (h : get fr' = get fr) : get (putD dst a fr') = get (putD dst a fr) := by
  cases dst with
  | none => exact h
  | some d => funext s; simp only [putD, get_put, h]

theorem swap {x y : Oper} {fr : List (Nat × AV)} {ow owx owy : List Ob} {avx avy : AV} {tx ty : Nat} (hap : x.apart ops y = true)
    (h1 : OneStep c call own ops x fr ow avx owx tx) (h2 : OneStep c call own ops y (putD x.dst avx fr) owx avy owy ty) (ht : tx = 0 ∨ ty = 0 ∨ (tx = 1 ∧ ty = 1)) :
    ∃ ow1, OneStep c call own ops y fr ow avy ow1 ty ∧ OneStep c call own ops x (putD y.dst avy fr) ow1 avx owy tx := by
  obtain ⟨a1, a2, a3⟩ := Oper.apart_spec hap
  have h2' : OneStep c call own ops y fr owx avy owy ty := h2.congr fun s hs => (get_putD_ne fun d hd e => a1 d hd (e ▸ hs)).symm
  have go : ∀ ow1, OneStep c call own ops x fr ow1 avx owy tx → OneStep c call own ops x (putD y.dst avy fr) ow1 avx owy tx := fun ow1 h =>
    h.congr fun s hs => get_putD_ne fun d hd e => a3 d hd (e ▸ hs)
  rcases ht with rfl | rfl | ⟨rfl, rfl⟩
  · have e := h1.keeps (by decide); subst e
    exact ⟨owy, h2', go _ (h1.free rfl owy)⟩
  · have e := h2'.keeps (by decide); subst e
    exact ⟨ow, h2'.free rfl ow, go _ h1⟩
  · have e := h1.keeps (by decide); subst e
    have e := h2'.keeps (by decide); subst e
    exact ⟨_, h2', go _ h1⟩

inductive Tr (c : Cfg) (call : Wf) (own : Hi) (ops : Array Oper) (τ : Nat → Nat) : List (Nat × Oper) → List (Nat × AV) → List Ob → List (Nat × AV) → List Ob → Prop
  | nil (fr fr' : List (Nat × AV)) (ow : List Ob) (h : get fr' = get fr) : Tr c call own ops τ [] fr ow fr' ow
  | cons (i : Nat) (o : Oper) (l : List (Nat × Oper)) (fr fr' : List (Nat × AV)) (ow ow1 ow' : List Ob) (av : AV) (h : OneStep c call own ops o fr ow av ow1 (τ i)) (ht : Tr c call own ops τ l (putD o.dst av fr) ow1 fr' ow') :
      Tr c call own ops τ ((i, o) :: l) fr ow fr' ow'

theorem Tr.congr {τ : Nat → Nat} {l : List (Nat × Oper)} {fr fr' fr1 fr1' : List (Nat × AV)} {ow ow' : List Ob} (h : Tr c call own ops τ l fr ow fr' ow') (e : get fr1 = get fr) (e' : get fr1' = get fr') : Tr c call own ops τ l fr1 ow fr1' ow' := by
  induction h generalizing fr1 with
  | nil fr fr' ow h => exact .nil _ _ _ (by rw [e, e', h])
  | cons i o l fr fr' ow ow1 ow' av h ht ih => exact .cons i o l _ _ _ ow1 _ av (h.congr fun s _ => by rw [e]) (ih (putD_congr e) e')

theorem Tr.front {τ : Nat → Nat} {j : Nat} {y : Oper} {l2 : List (Nat × Oper)} : ∀ {l1 : List (Nat × Oper)} {fr fr' : List (Nat × AV)} {ow ow' : List Ob}, Tr c call own ops τ (l1 ++ (j, y) :: l2) fr ow fr' ow' →
    (∀ p ∈ l1, p.2.apart ops y = true ∧ (τ p.1 = 0 ∨ τ j = 0 ∨ (τ p.1 = 1 ∧ τ j = 1))) → ∃ av ow1, OneStep c call own ops y fr ow av ow1 (τ j) ∧ Tr c call own ops τ (l1 ++ l2) (putD y.dst av fr) ow1 fr' ow'
  | [], fr, fr', ow, ow', h, _ => by
    cases h with
    | cons _ _ _ _ _ _ ow1 _ av h ht => exact ⟨av, ow1, h, ht⟩
  | (i, x) :: l1, fr, fr', ow, ow', h, hp => by
    cases h with
    | cons _ _ _ _ _ _ owx _ avx h ht =>
      obtain ⟨avy, owy, h1, h2⟩ := Tr.front ht fun p hq => hp p (by simp [hq])
      obtain ⟨ha, hτ⟩ := hp (i, x) (by simp)
      obtain ⟨ow1, h3, h4⟩ := swap ha h h1 hτ
      refine ⟨avy, ow1, h3, ?_⟩
      refine .cons i x (l1 ++ l2) _ _ _ owy _ avx h4 (h2.congr ?_ rfl)
      exact putD_comm fun d hd e => (Oper.apart_spec ha).2.1 d hd e

end

theorem before_fold_bit (acc : Array Nat) (es : List Edge) (s i : Nat) (h : (es.foldl (fun s e => if Region.binds .any e then s ||| 2 ^ e.on ||| acc.getD e.on 0 else s) s).testBit i = true) :
    s.testBit i = true ∨ ∃ e ∈ es, Region.binds .any e = true ∧ (e.on = i ∨ (acc.getD e.on 0).testBit i = true) := by
  induction es generalizing s with
  | nil => exact .inl h
  | cons e r ih =>
    simp only [List.foldl_cons] at h
    rcases ih _ h with h1 | ⟨e', he, hb⟩
    · by_cases hb : Region.binds .any e = true
      · rw [if_pos hb] at h1
        simp only [Nat.testBit_or, Bool.or_eq_true, Nat.testBit_two_pow] at h1
        rcases h1 with (h1 | h1) | h1
        · exact .inl h1
        · exact .inr ⟨e, by simp, hb, .inl (by simpa using h1)⟩
        · exact .inr ⟨e, by simp, hb, .inr h1⟩
      · rw [if_neg hb] at h1; exact .inl h1
    · exact .inr ⟨e', by simp [he], hb⟩

theorem before_go (l : List Oper) : ∀ (acc : Array Nat) (pre : List Oper), acc.size = pre.length →
    (∀ j i, (acc.getD j 0).testBit i = true → ∃ o, pre[j]? = some o ∧ ∃ e ∈ o.after, Region.binds .any e = true ∧ (e.on = i ∨ (e.on < j ∧ (acc.getD e.on 0).testBit i = true))) →
    ∀ j i, ((l.foldl (fun (acc : Array Nat) o => acc.push (o.after.foldl (fun s e => if Region.binds .any e then s ||| 2 ^ e.on ||| acc.getD e.on 0 else s) 0)) acc).getD j 0).testBit i = true →
      ∃ o, (pre ++ l)[j]? = some o ∧ ∃ e ∈ o.after, Region.binds .any e = true ∧ (e.on = i ∨ (e.on < j ∧ ((l.foldl (fun (acc : Array Nat) o => acc.push (o.after.foldl (fun s e => if Region.binds .any e then s ||| 2 ^ e.on ||| acc.getD e.on 0 else s) 0)) acc).getD e.on 0).testBit i = true)) := by
  induction l with
  | nil => intro acc pre hs h j i hb; simpa using h j i (by simpa using hb)
  | cons o r ih =>
    intro acc pre hs h j i hb
    simp only [List.foldl_cons] at hb ⊢
    have := ih _ (pre ++ [o]) (by simp [hs]) ?_ j i hb
    · simpa using this
    · intro j i hb
      rcases Nat.lt_trichotomy j acc.size with hj | hj | hj
      · have e1 : (acc.push (o.after.foldl (fun s e => if Region.binds .any e then s ||| 2 ^ e.on ||| acc.getD e.on 0 else s) 0)).getD j 0 = acc.getD j 0 := by
          simp [Array.getElem?_push, Nat.ne_of_lt hj]
        rw [e1] at hb
        obtain ⟨o', h1, e, he, hbi, h2⟩ := h j i hb
        refine ⟨o', by rw [List.getElem?_append_left (by omega)]; exact h1, e, he, hbi, h2.imp id fun h3 => ⟨h3.1, ?_⟩⟩
        have e2 : (acc.push (o.after.foldl (fun s e => if Region.binds .any e then s ||| 2 ^ e.on ||| acc.getD e.on 0 else s) 0)).getD e.on 0 = acc.getD e.on 0 := by
          simp [Array.getElem?_push, Nat.ne_of_lt (Nat.lt_trans h3.1 hj)]
        rw [e2]; exact h3.2
      · subst hj
        have hb' : (o.after.toList.foldl (fun s e => if Region.binds .any e then s ||| 2 ^ e.on ||| acc.getD e.on 0 else s) 0).testBit i = true := by
          rw [Array.foldl_toList]
          simpa [Array.getD_eq_getD_getElem?, Array.getElem?_push] using hb
        rcases before_fold_bit acc _ 0 i hb' with h1 | ⟨e, he, hbi, h2⟩
        · simp at h1
        · refine ⟨o, by rw [hs]; simp, e, Array.mem_toList_iff.1 he, hbi, h2.imp id fun h3 => ?_⟩
          have hlt : e.on < acc.size := by
            rcases Nat.lt_or_ge e.on acc.size with h' | h'
            · exact h'
            · simp [Array.getElem?_eq_none h'] at h3
          refine ⟨hlt, ?_⟩
          simp only [Array.getD_eq_getD_getElem?, Array.getElem?_push, if_neg (Nat.ne_of_lt hlt)]
          simpa [Array.getD_eq_getD_getElem?] using h3
      · rw [Array.getD_eq_getD_getElem?, Array.getElem?_eq_none (by simp; omega)] at hb
        simp at hb

theorem before_bit {ops : Array Oper} {j i : Nat} (h : ((Region.before ops).getD j 0).testBit i = true) :
    ∃ o, ops[j]? = some o ∧ ∃ e ∈ o.after, Region.binds .any e = true ∧ (e.on = i ∨ (e.on < j ∧ ((Region.before ops).getD e.on 0).testBit i = true)) := by
  unfold Region.before at h ⊢
  rw [← Array.foldl_toList] at h ⊢
  have := before_go ops.toList #[] [] rfl (by simp) j i h
  simpa using this

def Closed (ops : Array Oper) (listed : Array Bool) : Prop := ∀ j o, ops[j]? = some o → listed.getD j false = true → ∀ e ∈ o.after, Region.binds .any e = true → listed.getD e.on false = true

theorem Closed.bit {ops : Array Oper} {listed : Array Bool} (h : Closed ops listed) : ∀ (j i : Nat), listed.getD j false = true → ((Region.before ops).getD j 0).testBit i = true → listed.getD i false = true := by
  intro j
  induction j using Nat.strongRecOn with
  | ind j ih =>
    intro i hl hb
    obtain ⟨o, ho, e, he, hbi, h1⟩ := before_bit hb
    have h2 := h j o ho hl e he hbi
    rcases h1 with rfl | ⟨h3, h4⟩
    · exact h2
    · exact ih e.on h3 i h2 h4

theorem Closed.ready {ops : Array Oper} {listed : Array Bool} (h : Closed ops listed) {j i : Nat} (hj : j ∈ Region.ready .any ops listed) (hi : listed.getD i false = false) : ((Region.before ops).getD j 0).testBit i = false := by
  cases hb : ((Region.before ops).getD j 0).testBit i with
  | false => rfl
  | true =>
    obtain ⟨_, o, ho, hall⟩ := mem_ready.1 hj
    obtain ⟨o', ho', e, he, hbi, h1⟩ := before_bit hb
    rw [ho] at ho'; cases ho'
    have h2 := hall e he hbi
    rcases h1 with rfl | ⟨h3, h4⟩
    · rw [hi] at h2; cases h2
    · have := h.bit e.on i h2 h4
      rw [hi] at this; cases this

def regOk (ops : Array Oper) : Bool :=
  let b := Region.before ops
  let l := ops.toList.zipIdx
  l.all fun q => q.1.after.toList.all (fun e => !Region.binds .any e || decide (e.on < q.2)) &&
    l.all fun p => decide (q.2 ≤ p.2) || (b.getD q.2 0).testBit p.2 || p.1.apart ops q.1

theorem regOk_edge {ops : Array Oper} (h : regOk ops = true) {j : Nat} {o : Oper} (ho : ops[j]? = some o) {e : Edge} (he : e ∈ o.after) (hb : Region.binds .any e = true) : e.on < j := by
  have h1 := List.all_eq_true.1 h (o, j) (by rw [List.mem_zipIdx_iff_getElem?]; simpa using ho)
  simp only [Bool.and_eq_true] at h1
  have h2 := List.all_eq_true.1 h1.1 e (Array.mem_toList_iff.2 he)
  simpa [hb] using h2

theorem regOk_apart {ops : Array Oper} (h : regOk ops = true) {i j : Nat} {x y : Oper} (hx : ops[i]? = some x) (hy : ops[j]? = some y) (hij : i < j) (hb : ((Region.before ops).getD j 0).testBit i = false) : x.apart ops y = true := by
  have h1 := List.all_eq_true.1 h (y, j) (by rw [List.mem_zipIdx_iff_getElem?]; simpa using hy)
  simp only [Bool.and_eq_true] at h1
  have h2 := List.all_eq_true.1 h1.2 (x, i) (by rw [List.mem_zipIdx_iff_getElem?]; simpa using hx)
  simp only [hb, Bool.or_false, Bool.or_eq_true, decide_eq_true_eq] at h2
  exact h2.resolve_left (by omega)

section
variable {P : Program} {c : Cfg} {call : Wf} {own : Hi} {ops : Array Oper}

structure Left (ops : Array Oper) (listed : Array Bool) (l : List (Nat × Oper)) : Prop where
  size : listed.size = ops.size
  mem : ∀ i o, (i, o) ∈ l ↔ ops[i]? = some o ∧ listed.getD i true = false
  sorted : l.Pairwise fun p q => p.1 < q.1
  closed : Closed ops listed

theorem getD_flip {listed : Array Bool} {i : Nat} (h : listed.getD i true = false) : listed.getD i false = false := by
  cases e : listed[i]? with
  | none => simp [Array.getD_eq_getD_getElem?, e]
  | some b => simpa [Array.getD_eq_getD_getElem?, e] using h

theorem Left.take {listed : Array Bool} {l1 l2 : List (Nat × Oper)} {j : Nat} {y : Oper} (h : Left ops listed (l1 ++ (j, y) :: l2)) (hj : j ∈ Region.ready .any ops listed) :
    Left ops (listed.setIfInBounds j true) (l1 ++ l2) := by
  have hs := List.pairwise_append.1 h.sorted
  have hs2 := List.pairwise_cons.1 hs.2.1
  refine ⟨by simp [h.size], fun i o => ?_, ?_, ?_⟩
  · constructor
    · intro hm
      have hm' : (i, o) ∈ l1 ++ (j, y) :: l2 := by
        rcases List.mem_append.1 hm with hm | hm
        · exact List.mem_append_left _ hm
        · exact List.mem_append_right _ (by simp [hm])
      obtain ⟨h1, h2⟩ := (h.mem i o).1 hm'
      refine ⟨h1, ?_⟩
      have hne : j ≠ i := by
        rcases List.mem_append.1 hm with hm | hm
        · exact Nat.ne_of_gt (hs.2.2 (i, o) hm (j, y) (by simp))
        · exact Nat.ne_of_lt (hs2.1 (i, o) hm)
      rw [getD_set_ne true hne]; exact h2
    · rintro ⟨h1, h2⟩
      by_cases hne : j = i
      · subst hne
        have hlt : j < listed.size := by rw [h.size]; exact (Array.getElem?_eq_some_iff.1 h1).1
        simp [hlt] at h2
      · rw [getD_set_ne true hne] at h2
        rcases List.mem_append.1 ((h.mem i o).2 ⟨h1, h2⟩) with hm | hm
        · exact List.mem_append_left _ hm
        · rcases List.mem_cons.1 hm with e | hm
          · cases e; exact absurd rfl hne
          · exact List.mem_append_right _ hm
  · exact List.pairwise_append.2 ⟨hs.1, hs2.2, fun p hp q hq => hs.2.2 p hp q (by simp [hq])⟩
  · intro k o ho hl e he hb
    by_cases hne : j = k
    · subst hne
      obtain ⟨_, o', ho', hall⟩ := mem_ready.1 hj
      rw [ho] at ho'; cases ho'
      exact getD_set_true (hall e he hb)
    · rw [getD_set_ne false hne] at hl
      exact getD_set_true (h.closed k o ho hl e he hb)

theorem Left.done {listed : Array Bool} {l : List (Nat × Oper)} (h : Left ops listed l) (hok : regOk ops = true) (hr : Region.ready .any ops listed = []) : l = [] := by
  cases l with
  | nil => rfl
  | cons p l =>
    obtain ⟨i, o⟩ := p
    exfalso
    obtain ⟨h1, h2⟩ := (h.mem i o).1 (by simp)
    have : i ∈ Region.ready .any ops listed := mem_ready.2 ⟨h2, o, h1, fun e he hb => by
      have hlt := regOk_edge hok h1 he hb
      have hsz : e.on < ops.size := Nat.lt_trans hlt (Array.getElem?_eq_some_iff.1 h1).1
      cases hl : listed.getD e.on true with
      | false =>
        have hm := (h.mem e.on ops[e.on]).2 ⟨by simp [hsz], hl⟩
        rcases List.mem_cons.1 hm with e' | hm
        · cases e'; omega
        · have := (List.pairwise_cons.1 h.sorted).1 _ hm
          simp only at this; omega
      | true =>
        have hsz' : e.on < listed.size := by rw [h.size]; exact hsz
        simpa [hsz'] using hl⟩
    rw [hr] at this; cases this

theorem tr_wp {w0 : Base} {S0 : Pr} {nt : Nat} (hT : TyOK P c) (hcall : CallOK P call) (hok : regOk ops = true) (hd : ∀ (j : Nat) (o : Oper), ops[j]? = some o → ∀ d, o.dst = some d → d < nt) {τ : Nat → Nat}
    (hτ : ∀ i j, i < j → j < ops.size → τ i = 0 ∨ τ j = 0 ∨ (τ i = 1 ∧ τ j = 1) ∨ ((Region.before ops).getD j 0).testBit i = true) {Q : Exit → Act → World → Prop} {fr' : List (Nat × AV)} {ow' : List Ob}
    (hQ : ∀ fr'' a w S L, get fr'' = get fr' → StR c w0 S0 nt fr'' ow' a w S L → Q .normal a w) :
    ∀ (n : Nat) (l : List (Nat × Oper)) (listed : Array Bool) (fr : List (Nat × AV)) (ow : List Ob) (a : Act) (w : World) (S : Pr) (L : List Loc), l.length = n → Left ops listed l → Tr c call own ops τ l fr ow fr' ow' →
      StR c w0 S0 nt fr ow a w S L → wpAny P .any ops Q n listed a w := by
  have fin : ∀ (l : List (Nat × Oper)) (listed : Array Bool) (fr : List (Nat × AV)) (ow : List Ob) (a : Act) (w : World) (S : Pr) (L : List Loc), Left ops listed l → Tr c call own ops τ l fr ow fr' ow' →
      StR c w0 S0 nt fr ow a w S L → Region.ready .any ops listed = [] → Q .normal a w := fun l listed fr ow a w S L hl ht st hr => by
    have e := hl.done hok hr
    subst e
    cases ht with
    | nil _ _ _ h => exact hQ fr a w S L h.symm st
  intro n
  induction n with
  | zero =>
    intro l listed fr ow a w S L hn hl ht st
    have e := List.length_eq_zero_iff.1 hn
    subst e
    have hr : Region.ready .any ops listed = [] := by
      cases hr : Region.ready .any ops listed with
      | nil => rfl
      | cons j r =>
        obtain ⟨h0, o, ho, _⟩ := mem_ready.1 (show j ∈ Region.ready .any ops listed by rw [hr]; simp)
        have := (hl.mem j o).2 ⟨ho, h0⟩
        cases this
    exact ⟨hr, fin [] listed fr ow a w S L hl ht st hr⟩
  | succ n ih =>
    intro l listed fr ow a w S L hn hl ht st
    refine ⟨fin l listed fr ow a w S L hl ht st, fun j hj => ?_⟩
    obtain ⟨h0, y, ho, _⟩ := mem_ready.1 hj
    obtain ⟨l1, l2, rfl⟩ := List.append_of_mem ((hl.mem j y).2 ⟨ho, h0⟩)
    obtain ⟨av, ow1, h1, h2⟩ := ht.front fun p hp => by
      obtain ⟨i, x⟩ := p
      have hlt : i < j := (List.pairwise_append.1 hl.sorted).2.2 (i, x) hp (j, y) (by simp)
      obtain ⟨hx, hun⟩ := (hl.mem i x).1 (by simp [hp])
      have hb := hl.closed.ready hj (getD_flip hun)
      refine ⟨regOk_apart hok hx ho hlt hb, ?_⟩
      rcases hτ i j hlt (Array.getElem?_eq_some_iff.1 ho).1 with h | h | h | h
      · exact .inl h
      · exact .inr (.inl h)
      · exact .inr (.inr h)
      · rw [hb] at h; cases h
    refine one_wp hT hcall st ho (hd j y ho) h1 fun v w' S' L' st' _ _ => ?_
    exact ih (l1 ++ l2) _ _ _ _ _ S' L' (by simp at hn ⊢; omega) (hl.take hj) h2 st'

theorem touch_le (o : Oper) (r : Operand → TypeId → AV) : touch own o r ≤ 2 := by
  have hc : ∀ (b : Bool) (x y : Nat), x ≤ 2 → y ≤ 2 → (bif b then x else y) ≤ 2 := fun b x y hx hy => by cases b <;> assumption
  have h1 : ∀ (b : Bool) , (bif b then 1 else 0) ≤ 2 := fun b => hc b 1 0 (by decide) (by decide)
  unfold touch
  cases o.op <;> try simp only
  case call cl =>
    cases cl.callee <;> try simp only
    · exact hc _ _ _ (by decide) (h1 _)
    · exact Nat.le_refl _
    · rename_i b
      cases b <;> try simp only
      all_goals first | exact Nat.le_refl _ | exact h1 _ | exact Nat.zero_le _ | skip
      split <;> first | exact Nat.le_refl _ | skip
      split <;> first | exact Nat.le_refl _ | exact hc _ _ _ (by decide) (h1 _)
  all_goals first
    | exact Nat.le_refl _ | exact Nat.zero_le _ | exact h1 _ | exact hc _ _ _ (by decide) (h1 _) | exact hc _ _ _ (by decide) (by decide)
    | (refine hc _ _ _ ?_ (by decide); split <;> decide)

theorem OneStep.le {o : Oper} {fr : List (Nat × AV)} {ow ow' : List Ob} {av : AV} {t : Nat} (h : OneStep c call own ops o fr ow av ow' t) : t ≤ 2 := by
  cases h with
  | run => exact touch_le _ _
  | skip => exact Nat.zero_le _

theorem evOps_tr {R : Type} {k : St → List Nat → Option R} {y : R} :
    ∀ (rest : List Oper) (i : Nat) (st : St) (ts : List Nat), ts.length = i → evOps c call own ops rest st ts k = some y →
      ∃ (fr' : List (Nat × AV)) (ow' : List Ob) (ts' : List Nat), ts'.length = rest.length ∧ (∀ t ∈ ts', t ≤ 2) ∧ (∀ τ : Nat → Nat, (∀ j t, ts'[j]? = some t → τ (i + j) = t) → Tr c call own ops τ (rest.mapIdx fun j o => (i + j, o)) st.fr st.ow fr' ow') ∧ k ⟨fr', ow'⟩ (ts'.reverse ++ ts) = some y
  | [], i, st, ts, _, h => ⟨st.fr, st.ow, [], rfl, by simp, fun τ _ => .nil _ _ _ rfl, h⟩
  | o :: rest, i, st, ts, hi, h => by
    obtain ⟨fr1, av, ow1, t, he, h1, h2⟩ := evOps_step h
    obtain ⟨fr', ow', ts', hl, hle, h3, h4⟩ := evOps_tr rest (i + 1) _ (t :: ts) (by simp [hi]) h2
    refine ⟨fr', ow', t :: ts', by simp [hl], fun t' ht' => ?_, fun τ hτ => ?_, by simpa using h4⟩
    · rcases List.mem_cons.1 ht' with rfl | ht'
      · exact h1.le
      · exact hle _ ht'
    have := h3 τ fun j t hj => by have := hτ (j + 1) t (by simpa using hj); rwa [show i + 1 + j = i + (j + 1) by omega]
    have e0 : τ i = t := by simpa using hτ 0 t rfl
    rw [List.mapIdx_cons]
    refine .cons (i + 0) o _ _ _ _ ow1 _ av (by subst e0; exact h1) ?_
    have e : (fun j (o : Oper) => (i + (j + 1), o)) = fun j o => (i + 1 + j, o) := by funext j o; rw [show i + (j + 1) = i + 1 + j by omega]
    rw [e]
    exact this.congr (putD_congr he.symm) rfl

theorem drawOk_spec {ts : List Nat} (h : drawOk ops ts = true) (hts : ∀ t ∈ ts, t ≤ 2) {i j : Nat} (hij : i < j) {ti tj : Nat} (hi : ts[i]? = some ti) (hj : ts[j]? = some tj) :
    ti = 0 ∨ tj = 0 ∨ (ti = 1 ∧ tj = 1) ∨ ((Region.before ops).getD j 0).testBit i = true := by
  by_cases h0 : ti = 0
  · exact .inl h0
  by_cases h1 : tj = 0
  · exact .inr (.inl h1)
  by_cases h2 : ti = 1 ∧ tj = 1
  · exact .inr (.inr (.inl h2))
  refine .inr (.inr (.inr ?_))
  have m : ∀ k t, ts[k]? = some t → t ≠ 0 → (t, k) ∈ ts.zipIdx.filter fun p => p.1 != 0 := fun k t hk ht => by
    rw [List.mem_filter, List.mem_zipIdx_iff_getElem?]; exact ⟨hk, by simpa using ht⟩
  have mi := m i ti hi h0
  have mj := m j tj hj h1
  unfold drawOk at h
  have hc : ts.contains 2 = true := by
    have b1 := hts ti (List.mem_of_getElem? hi)
    have b2 := hts tj (List.mem_of_getElem? hj)
    have : ti = 2 ∨ tj = 2 := by omega
    rcases this with rfl | rfl
    · simpa using List.mem_of_getElem? hi
    · simpa using List.mem_of_getElem? hj
  rw [hc] at h
  simp only [Bool.not_true, cond_false] at h
  have hlen : ¬ (ts.zipIdx.filter fun p => p.1 != 0).length ≤ 1 := fun hle => by
    generalize (ts.zipIdx.filter fun p => p.1 != 0) = l at mi mj hle
    match l, hle with
    | [], _ => cases mi
    | [x], _ =>
      simp only [List.mem_singleton] at mi mj
      have := congrArg Prod.snd (mi.trans mj.symm)
      simp only at this; omega
  rw [show decide ((ts.zipIdx.filter fun p => p.1 != 0).length ≤ 1) = false by simpa using hlen] at h
  simp only [cond_false] at h
  have h3 := List.all_eq_true.1 (List.all_eq_true.1 h _ mi) _ mj
  simp only [ordered, Bool.or_eq_true, Bool.and_eq_true, beq_iff_eq] at h3
  rcases h3 with (h3 | h3) | h3
  · omega
  · exact absurd h3 h2
  · rwa [Nat.max_eq_right (by omega), Nat.min_eq_left (by omega)] at h3

theorem evOps_any {R : Type} {w0 : Base} {S0 : Pr} {nt : Nat} (hm : P.follows .mixedOrders = true) (hT : TyOK P c) (hcall : CallOK P call) (hok : regOk ops = true) (hd : dstsLt nt ops.toList = true) {Q : Exit → Act → World → Prop}
    {k : St → List Nat → Option R} {y : R} {id : Nat} {st : St} {a : Act} {w : World} {S : Pr} {L : List Loc} (hst : StR c w0 S0 nt st.fr st.ow a { w with drawn := w.drawn + 1 } S L)
    (h : evOps c call own ops ops.toList st [] (fun st' ts => bif drawOk ops ts.reverse then k st' ts else none) = some y)
    (hQ : ∀ st' ts' a' w' S' L', StR c w0 S0 nt st'.fr st'.ow a' w' S' L' → k st' ts' = some y → Q .normal a' w') : (Code.region id ops true).wp P Q a w := by
  refine wp_region_any hm ?_
  obtain ⟨fr', ow', ts', hlen, hle, htr, hk⟩ := evOps_tr ops.toList 0 st [] rfl h
  simp only [List.append_nil, List.reverse_reverse] at hk
  cases hdr : drawOk ops ts' with
  | false => rw [hdr] at hk; cases hk
  | true =>
    rw [hdr] at hk
    simp only [cond_true] at hk
    have ht := htr (fun i => ts'.getD i 0) (fun j t hj => by simp [List.getD_eq_getElem?_getD, hj])
    refine tr_wp hT hcall hok (fun j o ho d e => ?_) (τ := fun i => ts'.getD i 0) (fun i j hij hj => ?_) (fr' := fr') (ow' := ow') (fun fr'' a w S L he h1 => hQ ⟨fr', ow'⟩ _ a w S L ⟨h1.inv, h1.frs.same he.symm, h1.size, h1.defers⟩ hk)
      ops.size _ _ _ _ a _ S L (by simp) ?_ ht hst
    · have := List.all_eq_true.1 hd o (Array.mem_toList_iff.2 (Array.mem_of_getElem? ho))
      rw [e] at this
      simpa using this
    · have hj' : j < ts'.length := by rw [hlen]; simpa using hj
      have hi' : i < ts'.length := Nat.lt_trans hij hj'
      have := drawOk_spec hdr hle hij (List.getElem?_eq_getElem hi') (List.getElem?_eq_getElem hj')
      simpa [List.getD_eq_getElem?_getD, hi', hj'] using this
    · refine ⟨by simp, fun i o => ?_, ?_, fun j o ho hl => ?_⟩
      · rw [List.mem_mapIdx]
        constructor
        · rintro ⟨j, hj, e⟩
          simp only [Prod.mk.injEq, Nat.zero_add] at e
          obtain ⟨rfl, rfl⟩ := e
          have : j < ops.size := by simpa using hj
          simp [this]
        · rintro ⟨h1, _⟩
          obtain ⟨h2, h3⟩ := Array.getElem?_eq_some_iff.1 h1
          exact ⟨i, by simpa using h2, by simp [h3]⟩
      · rw [List.pairwise_iff_getElem]
        intro i j hi hj hij
        simpa using hij
      · simp only [Array.getD_eq_getD_getElem?] at hl
        cases e : (Array.replicate ops.size false)[j]? with
        | none => rw [e] at hl; simp at hl
        | some b =>
          rw [Array.getElem?_replicate] at e
          split at e
          · cases e; rename_i h'; simp [h'] at hl
          · cases e
end
end Go.Ab

namespace Go.Ab
open Go.RowKit (Below)
set_option linter.unusedVariables false
set_option linter.unusedSimpArgs false
variable [GL : Gl]

def Gho (w0 : Base) (w : World) (S0 : Pr) (ow ow' : List Ob) : Prop := ∀ S L, Inv w0 S0 S L ow w → ∃ S' L', Inv w0 S0 S' L' ow' w ∧ Evo S L ow S' L' ow'

section
variable {w0 : Base} {w : World} {S0 : Pr} {ow ow' ow'' : List Ob}

theorem Gho.refl : Gho w0 w S0 ow ow := fun S L h => ⟨S, L, h, Evo.refl _ _ _⟩
theorem Gho.trans (h : Gho w0 w S0 ow ow') (k : Gho w0 w S0 ow' ow'') : Gho w0 w S0 ow ow'' := fun S L i => by
  obtain ⟨S1, L1, i1, e1⟩ := h S L i
  obtain ⟨S2, L2, i2, e2⟩ := k S1 L1 i1
  exact ⟨S2, L2, i2, e1.trans e2⟩

theorem set_same {α : Type} {l : List α} {i : Nat} {x : α} (h : l[i]? = some x) : l.set i x = l := by
  apply List.ext_getElem?
  intro j
  by_cases e : j = i
  · subst e
    obtain ⟨hlt, _⟩ := List.getElem?_eq_some_iff.1 h
    rw [List.getElem?_set_self hlt, h]
  · rw [List.getElem?_set_ne (Ne.symm e)]

def Pr.addM (S : Pr) (b : Nat) (v : Value) : Pr := fun b' o => if b' = b ∧ o = 0 then some v else S b' o

theorem Gho.shutRow {o : Nat} {ob : Ob} (ho : ow[o]? = some ob) : Gho w0 w S0 ow (ow.set o (sealRow ob)) := by
  cases ob with
  | row sl ver sh xs =>
    intro S L inv
    have hltL : o < L.length := by rw [inv.len]; exact (List.getElem?_eq_some_iff.1 ho).1
    obtain ⟨l, hl⟩ : ∃ l, L[o]? = some l := ⟨L[o], by simp [hltL]⟩
    have hob := inv.obs o _ _ ho hl
    cases l with
    | grp b rs => exact hob.elim
    | fix s0 b0 n0 k0 => exact hob.elim
    | blk b => exact hob.elim
    | row base cap =>
      obtain ⟨hc, hs, hx⟩ := hob
      simp only [sealRow]
      rcases hx with rfl | ⟨b, o0, cs, t, rfl, hh, hfit, hcell⟩
      · have hE : Evo S L ow S (L.set o (.row base 0)) (ow.set o (.row true ver sh xs)) := Evo.turn ho hl (Pr.le_refl S) (fun _ h k => by cases h; cases k) ⟨rfl, Nat.le_refl _, fun _ => ⟨rfl, rfl⟩⟩
        exact ⟨S, _, inv.turn ho hl hE (Nat.le_refl _) rfl rfl rfl (fun _ _ _ => rfl) (fun _ _ _ _ => rfl) inv.prot ⟨hc, hs, .inl rfl⟩ (fun b hb => by simp [blkOf] at hb), hE⟩
      · by_cases hcap : cap = 0
        · subst hcap
          have hE : Evo S L ow S (L.set o (.row (some ⟨b, o0, none⟩) 0)) (ow.set o (.row true ver sh xs)) := Evo.turn ho hl (Pr.le_refl S) (fun _ h k => by cases h; cases k) ⟨rfl, Nat.le_refl _, fun _ => ⟨rfl, rfl⟩⟩
          exact ⟨S, _, inv.turn ho hl hE (Nat.le_refl _) rfl rfl rfl (fun _ _ _ => rfl) (fun _ _ _ _ => rfl) inv.prot ⟨hc, hs, .inl rfl⟩ (fun b hb => by simp [blkOf] at hb), hE⟩
        · have hle := add_le (lo := o0) (hi := o0 + xs.length * szOf sh) inv.prot hh
          have hblk : ∀ s, blkOf (.row s ver sh xs) (.row (some ⟨b, o0, none⟩) cap) = [b] := fun s => by simp [blkOf, hcap]
          have hown := inv.own o _ _ b ho hl (by rw [hblk sl]; simp)
          have hE : Evo S L ow (S.add b o0 (o0 + xs.length * szOf sh) cs) (L.set o (.row (some ⟨b, o0, none⟩) cap)) (ow.set o (.row true ver sh xs)) :=
            Evo.turn ho hl hle (fun _ h k => by cases h; cases k) ⟨rfl, Nat.le_refl _, fun _ => ⟨rfl, rfl⟩⟩
          refine ⟨_, _, inv.turn ho hl hE (Nat.le_refl _) rfl rfl rfl (fun _ _ _ => rfl) (fun b' j _ hne => add_other fun e => hne (by rw [e, hblk sl]; simp)) (add_prot inv.prot hh)
            ⟨hc, hs, .inr ⟨b, o0, cs, t, rfl, hh, hfit, fun i j hi hj => ?_⟩⟩ (fun b' hb => ?_), hE⟩
          · obtain ⟨v, h1, h2, h3, _⟩ := hcell i j hi hj
            refine ⟨v, h1, h2, fun x p hx hp => (h3 x p hx hp).mono hle, fun _ => ?_⟩
            have : i * szOf sh + j < xs.length * szOf sh := Nat.lt_of_lt_of_le (by omega : i * szOf sh + j < i * szOf sh + szOf sh) (by rw [← Nat.succ_mul]; exact Nat.mul_le_mul_right _ hi)
            unfold Pr.add
            rw [if_pos ⟨rfl, by omega, by omega⟩]
            exact cell1_of h1 h2
          · have e : b' = b := by rw [hblk true] at hb; exact List.mem_singleton.1 hb
            subst e
            refine ⟨.inr (by rw [hblk sl]; simp), hown.2.1, fun j v hv => ?_⟩
            simp only [mayS, true_and]
            unfold Pr.add at hv
            split at hv
            · rename_i h; exact h.2.2
            · have := hown.2.2 j v hv
              simp only [mayS] at this
              exact this.2
  | map sl es =>
    intro S L inv
    have hltL : o < L.length := by rw [inv.len]; exact (List.getElem?_eq_some_iff.1 ho).1
    obtain ⟨l, hl⟩ : ∃ l, L[o]? = some l := ⟨L[o], by simp [hltL]⟩
    have hob := inv.obs o _ _ ho hl
    cases l with
    | grp b rs => exact hob.elim
    | fix s0 b0 n0 k0 => exact hob.elim
    | row base cap => exact hob.elim
    | blk b =>
      obtain ⟨as, n, h1, h2, h3, h4⟩ := hob
      obtain ⟨k1, k2, k3⟩ := inv.own o _ _ b ho hl (by simp [blkOf])
      have hmem := memV_map h1
      have hle : S.le (S.addM b (encMap as)) := fun b' j v hv => by
        unfold Pr.addM
        split
        · rename_i e; obtain ⟨rfl, rfl⟩ := e
          have := inv.prot _ _ _ hv
          rw [hmem] at this; exact this
        · exact hv
      have hE : Evo S L ow (S.addM b (encMap as)) (L.set o (.blk b)) (ow.set o (.map true es)) := Evo.turn ho hl hle (fun _ h _ => h) (by trivial)
      simp only [sealRow]
      refine ⟨_, _, inv.turn ho hl hE (Nat.le_refl _) rfl rfl rfl (fun _ _ _ => rfl) (fun b' j _ hne => ?_) (fun b' j v hv => ?_)
        ⟨as, n, h1, h2, fun j e p he hp => ⟨(h3 j e p he hp).1.mono hle, (h3 j e p he hp).2.mono hle⟩, fun _ => by simp [Pr.addM]⟩ (fun b' hb => ?_), hE⟩
      · unfold Pr.addM; rw [if_neg (fun e => hne (by rw [e.1]; simp [blkOf]))]
      · unfold Pr.addM at hv
        split at hv
        · rename_i e; obtain ⟨rfl, rfl⟩ := e
          rw [hmem]; exact hv
        · exact inv.prot _ _ _ hv
      · have e : b' = b := by simpa [blkOf] using hb
        subst e
        refine ⟨.inr (by simp [blkOf]), k2, fun j v hv => ?_⟩
        simp only [mayS, true_and]
        unfold Pr.addM at hv
        split at hv
        · rename_i e; exact e.2
        · have := k3 j v hv; simp only [mayS] at this; exact this.2
  | _ => simp only [sealRow]; rw [set_same ho]; exact Gho.refl

theorem Gho.sealAt (o : Nat) : Gho w0 w S0 ow (Ab.sealAt ow o) := by
  unfold Ab.sealAt
  cases h : ow[o]? with
  | none => exact Gho.refl
  | some ob => exact Gho.shutRow h

theorem port_okSh {a : AV} {p : PV} {sh : Nat} (h : a.okSh sh = true) (hp : AV.port ow a = some p) : p.okSh sh = true := by
  have hL : ∀ (cs : List AV) (ps : List PV), AV.portL ow cs = some ps → ps.length = cs.length := by
    intro cs
    induction cs with
    | nil => intro ps h; simp only [AV.portL, Option.some.injEq] at h; subst h; rfl
    | cons a r ih =>
      intro ps h
      simp only [AV.portL] at h
      cases h1 : AV.port1 ow a with
      | none => rw [h1] at h; cases h
      | some q =>
        rw [h1] at h
        cases h2 : AV.portL ow r with
        | none => rw [h2] at h; cases h
        | some qs => rw [h2] at h; simp only [Option.some.injEq] at h; subst h; simp [ih qs h2]
  cases a with
  | pv q => simp only [AV.port, AV.port1, Option.some.injEq] at hp; subst hp; exact h
  | agg cs =>
    simp only [AV.port] at hp
    cases hc : AV.portL ow cs with
    | none => rw [hc] at hp; cases hp
    | some ps =>
      rw [hc] at hp
      simp only [Option.some.injEq] at hp
      subst hp
      have e : sh = cs.length + 1 := by simpa [AV.okSh] using h
      subst e
      simp [PV.okSh, hL _ _ hc]
  | nil s =>
    have e : sh = 0 := by simpa [AV.okSh] using h
    subst e
    simp only [AV.port, AV.port1, Option.some.injEq] at hp; subst hp; rfl
  | sl bb s xs =>
    have e : sh = 0 := by simpa [AV.okSh] using h
    subst e
    simp only [AV.port, AV.port1, Option.some.injEq] at hp; subst hp; rfl
  | gm o => cases hp
  | fx o s => cases hp
  | fe o i off => cases hp
  | view o ver s =>
    have e : sh = 0 := by simpa [AV.okSh] using h
    subst e
    simp only [AV.port, AV.port1] at hp
    split at hp
    · cases hb : (ver == _) with
      | false => rw [hb] at hp; cases hp
      | true => rw [hb] at hp; simp only [cond_true, Option.some.injEq] at hp; subst hp; rfl
    · cases hp
  | own o off =>
    have e : sh = 0 := by simpa [AV.okSh] using h
    subst e
    simp only [AV.port, AV.port1] at hp
    split at hp
    · simp only [Option.some.injEq] at hp; subst hp; rfl
    · cases hp
  | elem o ver i off => simp [AV.port, AV.port1] at hp
  | fnv f fs cs => simp [AV.port, AV.port1] at hp
  | tupA as => simp [AV.port, AV.port1] at hp
  | mp o =>
    have e : sh = 0 := by simpa [AV.okSh] using h
    subst e
    simp only [AV.port, AV.port1] at hp
    split at hp
    · simp only [Option.some.injEq] at hp; subst hp; rfl
    · cases hp

theorem Gho.freeze {o sh : Nat} {fz : Bool} {a : AV} {p : PV} (ho : ow[o]? = some (.var fz sh a)) (hp : AV.port ow a = some p) : Gho w0 w S0 ow (ow.set o (.var true sh (.pv p))) := by
  intro S L inv
  have hltL : o < L.length := by rw [inv.len]; exact (List.getElem?_eq_some_iff.1 ho).1
  obtain ⟨l, hl⟩ : ∃ l, L[o]? = some l := ⟨L[o], by simp [hltL]⟩
  have hob := inv.obs o _ _ ho hl
  cases l with
  | grp b rs => exact hob.elim
  | fix s0 b0 n0 k0 => exact hob.elim
  | row base cap => exact hob.elim
  | blk b =>
    obtain ⟨cs, t, v, hh, hv, hsh, hcs, _⟩ := hob
    have hown := inv.own o _ _ b ho hl (by simp [blkOf])
    have hle := add_le (lo := 0) (hi := cs.size) inv.prot hh
    have hE : Evo S L ow (S.add b 0 cs.size cs) (L.set o (.blk b)) (ow.set o (.var true sh (.pv p))) := Evo.turn ho hl hle (fun _ h _ => h) trivial
    refine ⟨_, _, inv.turn ho hl hE (Nat.le_refl _) rfl rfl rfl (fun _ _ _ => rfl) (fun b' j _ hne => add_other fun e => hne (by rw [e]; simp [blkOf])) (add_prot inv.prot hh)
      ⟨cs, t, v, hh, (port_sound inv hv hp).mono hle, port_okSh hsh hp, hcs, fun _ => ⟨⟨p, rfl⟩, fun j x hx => ?_⟩⟩ (fun b' hb => ?_), hE⟩
    · have hlt : j < cs.size := (Array.getElem?_eq_some_iff.1 hx).1
      unfold Pr.add
      rw [if_pos ⟨rfl, Nat.zero_le _, hlt⟩]
      exact cell1_of hx ((hv.cells hsh).2.1 x (by rw [hcs]; exact Array.mem_of_getElem? hx))
    · have e : b' = b := by simpa [blkOf] using hb
      subst e
      exact ⟨.inr (by simp [blkOf]), hown.2.1, fun j v hv => rfl⟩

theorem Gho.sealCells (cs : List AV) (ow : List Ob) : Gho w0 w S0 ow (Ab.sealCells cs ow) := by
  induction cs generalizing ow with
  | nil => exact Gho.refl
  | cons a r ih =>
    cases a <;> simp only [Ab.sealCells] <;> first | exact ih _ | exact (Gho.sealAt _).trans (ih _)

theorem sealAt_var {o o' sh : Nat} {fz : Bool} {a : AV} (h : ow[o]? = some (.var fz sh a)) : (Ab.sealAt ow o')[o]? = some (.var fz sh a) := by
  unfold Ab.sealAt
  cases h1 : ow[o']? with
  | none => exact h
  | some ob =>
    by_cases e : o' = o
    · subst e
      rw [h] at h1
      cases h1
      simp only [sealRow]
      rw [set_same h]; exact h
    · simp only; rw [List.getElem?_set_ne e]; exact h

theorem sealCells_var {o sh : Nat} {fz : Bool} {a : AV} (cs : List AV) {ow : List Ob} (h : ow[o]? = some (.var fz sh a)) : (Ab.sealCells cs ow)[o]? = some (.var fz sh a) := by
  induction cs generalizing ow with
  | nil => exact h
  | cons x r ih => cases x <;> simp only [Ab.sealCells] <;> first | exact ih h | exact ih (sealAt_var h)

theorem sealIn_var {o sh : Nat} {fz : Bool} {a x : AV} (h : ow[o]? = some (.var fz sh a)) : (Ab.sealIn x ow)[o]? = some (.var fz sh a) := by
  unfold Ab.sealIn
  cases x <;> first | exact h | exact sealAt_var h | exact sealCells_var _ h

theorem Gho.sealIn (x : AV) : Gho w0 w S0 ow (Ab.sealIn x ow) := by
  unfold Ab.sealIn
  cases x <;> first | exact Gho.refl | exact Gho.sealAt _ | exact Gho.sealCells _ _

theorem Gho.sealT (fr : List (Nat × AV)) (m : Nat) : Gho w0 w S0 ow (Ab.sealT fr ow m) := by
  unfold Ab.sealT
  cases get fr (m / 2) <;> try exact Gho.refl
  · exact Gho.sealAt _
  rotate_left
  · exact Gho.sealAt _
  · rename_i o off
    simp only
    cases h : ow[o]? with
    | none => exact Gho.refl
    | some ob =>
      cases ob <;> try exact Gho.refl
      rename_i fz sh a
      simp only
      cases (m % 2 == 0) with
      | true => exact Gho.sealIn _
      | false =>
        simp only [cond_false]
        cases hp : AV.port (Ab.sealIn a ow) a with
        | none => exact Gho.sealIn _
        | some p => exact (Gho.sealIn a).trans (Gho.freeze (sealIn_var h) hp)

theorem Gho.sealTs (fr : List (Nat × AV)) (ms : List Nat) (ow : List Ob) : Gho w0 w S0 ow (Ab.sealTs fr ms ow) := by
  induction ms generalizing ow with
  | nil => exact Gho.refl
  | cons m r ih => exact (Gho.sealT fr m).trans (ih _)

theorem set_mid {α : Type} (l r : List α) (x y : α) : (l ++ x :: r).set l.length y = l ++ y :: r := by simp

theorem Gho.sealRows (pre rest : List Ob) : Gho w0 w S0 (pre ++ rest) (pre ++ rest.map sealRow) := by
  induction rest generalizing pre with
  | nil => exact Gho.refl
  | cons x r ih =>
    have h1 : Gho w0 w S0 (pre ++ x :: r) (pre ++ sealRow x :: r) := by
      have := Gho.shutRow (w0 := w0) (w := w) (S0 := S0) (ow := pre ++ x :: r) (o := pre.length) (ob := x) (by simp)
      rwa [set_mid] at this
    have h2 := ih (pre ++ [sealRow x])
    simp only [List.append_assoc, List.singleton_append] at h2
    exact h1.trans h2

def Good2 (ow ow' : List Ob) : Prop := ∀ o : Nat, (∀ ver sh xs, ow[o]? = some (Ob.row true ver sh xs) → ow'[o]? = some (Ob.row true ver sh xs)) ∧ (∀ sh p, ow[o]? = some (Ob.var true sh (.pv p)) → ow'[o]? = some (Ob.var true sh (.pv p))) ∧ (∀ es, ow[o]? = some (Ob.map true es) → ow'[o]? = some (Ob.map true es))

theorem Good2.port1 (h : Good2 ow ow') {a : AV} {p : PV} (hp : AV.port1 ow a = some p) : AV.port1 ow' a = some p := by
  cases a <;> simp only [AV.port1] at hp ⊢ <;> try exact hp
  · rename_i o ver s
    split at hp
    · rename_i ver' sh xs hq
      rw [(h o).1 _ _ _ hq]; exact hp
    · cases hp
  · rename_i o off
    split at hp
    · rename_i sh q hq
      rw [(h o).2.1 _ _ hq]; exact hp
    · cases hp
  · rename_i o
    split at hp
    · rename_i es hq
      rw [(h o).2.2 _ hq]; exact hp
    · cases hp

theorem Good2.port (h : Good2 ow ow') {a : AV} {p : PV} (hp : AV.port ow a = some p) : AV.port ow' a = some p := by
  have hL : ∀ (cs : List AV) (ps : List PV), AV.portL ow cs = some ps → AV.portL ow' cs = some ps := by
    intro cs
    induction cs with
    | nil => intro ps h; exact h
    | cons a r ih =>
      intro ps h'
      simp only [AV.portL] at h' ⊢
      cases h1 : AV.port1 ow a with
      | none => rw [h1] at h'; cases h'
      | some q =>
        rw [h1] at h'
        rw [h.port1 h1]
        cases h2 : AV.portL ow r with
        | none => rw [h2] at h'; cases h'
        | some qs => rw [h2] at h'; rw [ih qs h2]; exact h'
  cases a with
  | agg cs =>
    simp only [AV.port] at hp ⊢
    cases hc : AV.portL ow cs with
    | none => rw [hc] at hp; cases hp
    | some ps => rw [hc] at hp; rw [hL _ _ hc]; exact hp
  | pv p => exact h.port1 (a := .pv p) hp
  | nil sh => exact h.port1 (a := .nil sh) hp
  | sl bb sh xxs => exact h.port1 (a := .sl bb sh xxs) hp
  | gm o => exact h.port1 (a := .gm o) hp
  | fx o s => exact h.port1 (a := .fx o s) hp
  | fe o i off => exact h.port1 (a := .fe o i off) hp
  | view o ver s => exact h.port1 (a := .view o ver s) hp
  | own o off => exact h.port1 (a := .own o off) hp
  | elem o ver i off => exact h.port1 (a := .elem o ver i off) hp
  | mp o => exact h.port1 (a := .mp o) hp
  | fnv f fs cs => exact h.port1 (a := .fnv f fs cs) hp
  | tupA as => exact h.port1 (a := .tupA as) hp

theorem Gho.freezeAll (ow0 : List Ob) (pre rest : List Ob) (h : Good2 ow0 (pre ++ rest)) : Gho w0 w S0 (pre ++ rest) (pre ++ Ab.freezeAll ow0 rest) := by
  induction rest generalizing pre with
  | nil => exact Gho.refl
  | cons x r ih =>
    have skip : Gho w0 w S0 (pre ++ x :: r) (pre ++ x :: Ab.freezeAll ow0 r) := by
      have h2 := ih (pre ++ [x]) (by simpa using h)
      simpa using h2
    cases x with
    | var fz sh a =>
      simp only [Ab.freezeAll]
      cases hp : AV.port ow0 a with
      | none => exact skip
      | some p =>
        simp only
        have h1 : Gho w0 w S0 (pre ++ .var fz sh a :: r) (pre ++ .var true sh (.pv p) :: r) := by
          have := Gho.freeze (w0 := w0) (w := w) (S0 := S0) (ow := pre ++ .var fz sh a :: r) (o := pre.length) (sh := sh) (fz := fz) (a := a) (by simp) (h.port hp)
          rwa [set_mid] at this
        have hg : Good2 ow0 ((pre ++ [.var true sh (.pv p)]) ++ r) := fun o => by
          have hx := h o
          by_cases e : o = pre.length
          · subst e
            refine ⟨fun ver sh' xs h3 => ?_, fun sh' q h3 => ?_, fun es h3 => ?_⟩
            · have := hx.1 _ _ _ h3; simp at this
            rotate_left
            · have := hx.2.2 _ h3; simp at this
            · have := hx.2.1 _ _ h3
              simp at this
              obtain ⟨_, rfl, rfl⟩ := this
              simp only [AV.port, AV.port1, Option.some.injEq] at hp
              subst hp; simp
          · have e2 : ((pre ++ [.var true sh (.pv p)]) ++ r)[o]? = (pre ++ .var fz sh a :: r)[o]? := by
              rw [List.append_assoc, List.singleton_append, ← set_mid pre r (.var fz sh a), List.getElem?_set_ne (Ne.symm e)]
            rw [e2]; exact hx
        have h2 := ih _ hg
        simp only [List.append_assoc, List.singleton_append] at h2
        exact h1.trans h2
    | _ => exact skip

theorem Gho.sealAll (ow : List Ob) : Gho w0 w S0 ow (Ab.sealAll ow) := by
  have h1 := Gho.sealRows (w0 := w0) (w := w) (S0 := S0) [] ow
  have h2 := Gho.freezeAll (w0 := w0) (w := w) (S0 := S0) (ow.map sealRow) [] (ow.map sealRow) (fun o => ⟨fun _ _ _ h => h, fun _ _ h => h, fun _ h => h⟩)
  exact Gho.trans h1 h2

theorem Gho.sealFrom (n : Nat) (ow : List Ob) : Gho w0 w S0 ow (Ab.sealFrom n ow) := by
  have h1 := Gho.sealRows (w0 := w0) (w := w) (S0 := S0) (ow.take n) (ow.drop n)
  rw [List.take_append_drop] at h1
  unfold Ab.sealFrom
  generalize ow.take n ++ (ow.drop n).map sealRow = ow1 at h1
  have h2 := Gho.freezeAll (w0 := w0) (w := w) (S0 := S0) ow1 (ow1.take n) (ow1.drop n) (fun o => by rw [List.take_append_drop]; exact ⟨fun _ _ _ h => h, fun _ _ h => h, fun _ h => h⟩)
  rw [List.take_append_drop] at h2
  exact Gho.trans h1 h2
end
end Go.Ab
