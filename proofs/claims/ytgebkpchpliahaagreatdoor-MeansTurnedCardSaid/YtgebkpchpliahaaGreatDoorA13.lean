/- Part 14 of the proof: an abstract machine that runs the program's code over plain values, its soundness, and what the functions tell of plain values. Conditions: those in each theorem. -/
import Derived.Test.YtgebkpchpliahaaGreatDoorA12
set_option linter.unusedSectionVars false
namespace Go.Cf
open Go Go.Ab
set_option linter.unusedVariables false
set_option linter.unusedSimpArgs false
theorem zVT (n : Int) (h : I64 n) : wc W zG8 [.int .i64 n] = some (.int .u64 (n.natAbs : Int)) := by
 obtain ⟨h1, h2⟩ := h
 have hw : ∀ m : Int, IntKind.wrap .u64 m = m % 18446744073709551616 := fun m => by simp [IntKind.wrap, IntKind.bits, IntKind.signed]
 rw [zRZ, hw, hw]
 by_cases hn : n < 0
 ·rw [decide_eq_true hn]
  simp only [cond_true]
  congr 2
  omega
 ·rw [decide_eq_false hn]
  simp only [cond_false]
  congr 2
  omega
theorem zM5 {a b : Int} (ha : I64 a) (hb : I64 b) : a.natAbs * b.natAbs ≤ 9223372036854775808 * 9223372036854775808 := Nat.mul_le_mul (by obtain ⟨_, _⟩ := ha; omega) (by obtain ⟨_, _⟩ := hb; omega)
theorem zTO {m : Nat} (hm : m ≤ 9223372036854775808 * 9223372036854775808) (k : Nat) (hk : k < 18446744073709551616) :
 (((m / 18446744073709551616 : Nat) : Int) == 0 && decide (((m % 18446744073709551616 : Nat) : Int) ≤ (k : Int))) = decide (m ≤ k) := by
 by_cases h : m ≤ k
 ·rw [decide_eq_true h]
  have h1 : m / 18446744073709551616 = 0 := Nat.div_eq_of_lt (by omega)
  have h2 : m % 18446744073709551616 = m := Nat.mod_eq_of_lt (by omega)
  rw [h1, h2]
  simpa using h
 ·rw [decide_eq_false h]
  by_cases h1 : m < 18446744073709551616
  ·have h2 : m % 18446744073709551616 = m := Nat.mod_eq_of_lt h1
   rw [h2]
   have : decide ((m : Int) ≤ (k : Int)) = false := decide_eq_false (by omega)
   rw [this, Bool.and_false]
  ·have h3 : 0 < m / 18446744073709551616 := Nat.div_pos (by omega) (by omega)
   have : ((((m / 18446744073709551616 : Nat) : Int)) == 0) = false := by simp only [beq_eq_false_iff_ne, ne_eq]; omega
   rw [this, Bool.false_and]
theorem zXv (a b : Int) (ha : I64 a) (hb : I64 b) : wc W zFN [.int .i64 a, .int .i64 b] = some (.tup [.int .i64 (IntKind.wrap .i64 (a * b)), .bool (inI (a * b))]) := by
 rw [zPM, zVT a ha, zVT b hb]
 have hm := zM5 ha hb
 obtain ⟨a1, a2⟩ := ha
 obtain ⟨b1, b2⟩ := hb
 simp only [Option.bind_some, c_u64_mk]
 rw [zNc _ _ (by omega) (by omega) (by omega) (by omega)]
 simp only [Option.bind_some, asTup_mk, List.getElem?_cons_zero, List.getElem?_cons_succ, c_u64_mk, Int.toNat_natCast]
 have hJ : ∀ k : Nat, k < 18446744073709551616 → zDd a b ((a.natAbs * b.natAbs / 18446744073709551616 : Nat) : Int) ((a.natAbs * b.natAbs % 18446744073709551616 : Nat) : Int) (k : Int) =
  some (.tup [.int .i64 (IntKind.wrap .i64 (a * b)), .bool (decide (a.natAbs * b.natAbs ≤ k))]) := fun k hk => by
  rw [zJ9, ← zTO hm k hk]
  cases (((a.natAbs * b.natAbs / 18446744073709551616 : Nat) : Int) == 0) <;> rfl
 have hab : (a * b).natAbs = a.natAbs * b.natAbs := Int.natAbs_mul a b
 by_cases hs : decide (a < 0) = decide (b < 0)
 ·rw [zNq hs]
  simp only [Bool.not_true, cond_false]
  rw [show (9223372036854775807 : Int) = ((9223372036854775807 : Nat) : Int) from rfl, hJ _ (by omega)]
  have h0 : 0 ≤ a * b := by
   rw [decide_eq_decide] at hs
   by_cases h : a < 0
   ·exact Int.le_of_lt (Int.mul_pos_of_neg_of_neg h (hs.1 h))
   ·exact Int.mul_nonneg (by omega) (by have : ¬ b < 0 := fun e => h (hs.2 e); omega)
  unfold inI
  rw [← hab, decide_eq_true (show -9223372036854775808 ≤ a * b by omega), Bool.true_and]
  congr 4
  congr 1
  rw [decide_eq_decide]; omega
 ·rw [zER hs]
  simp only [Bool.not_false, cond_true]
  rw [show (9223372036854775808 : Int) = ((9223372036854775808 : Nat) : Int) from rfl, hJ _ (by omega)]
  have h0 : a * b ≤ 0 := by
   rw [decide_eq_decide] at hs
   by_cases h : a < 0
   ·exact Int.mul_nonpos_of_nonpos_of_nonneg (by omega) (by omega)
   ·exact Int.mul_nonpos_of_nonneg_of_nonpos (by omega) (by omega)
  unfold inI
  rw [← hab, decide_eq_true (show a * b ≤ 9223372036854775807 by omega), Bool.and_true]
  congr 4
  congr 1
  rw [decide_eq_decide]; omega
theorem zYa (a b : Val) (ha : I64 a.N) (hb : I64 b.N) : wc W zHo [a.pv, b.pv] = some (zJb a b mulO).pv := by
 have h := zTA a.K a.N b.K b.N
 simp only [Val.fold] at h
 rw [h, zJn a b zFN mulO ⟨IntKind.wrap .i64 (a.N * b.N), ?_⟩]
 ·simp
 ·rw [zXv _ _ ha hb]
  unfold mulO
  cases hi : inI (a.N * b.N) with
  | false => rfl
  | true =>
   unfold inI at hi
   simp only [Bool.and_eq_true, decide_eq_true_eq] at hi
   rw [zA3 hi.1 hi.2]; rfl
end Go.Cf

namespace Go.Cf
open Go Go.Ab
set_option linter.unusedVariables false
set_option linter.unusedSimpArgs false
inductive Ex where
 | mk (op col : Int) (v : Val) (l : List Ex)
mutual
def Ex.pv : Ex → PV
 | .mk o c v l => .agg [.int .i64 o, .int .i64 c, .int .i64 v.K, .int .i64 v.N, .slice 6 (Ex.pvL l)]
def Ex.pvL : List Ex → List PV
 | [] => []
 | e :: r => e.pv :: Ex.pvL r
end
theorem Ex.pvL_map : ∀ l : List Ex, Ex.pvL l = l.map Ex.pv
 | [] => rfl
 | e :: r => by rw [Ex.pvL, Ex.pvL_map r]; rfl
theorem Ex.pv_mk (o c : Int) (v : Val) (l : List Ex) : (Ex.mk o c v l).pv = .agg [.int .i64 o, .int .i64 c, .int .i64 v.K, .int .i64 v.N, .slice 6 (l.map Ex.pv)] := by rw [Ex.pv, Ex.pvL_map]
def Ex.op : Ex → Int | .mk o _ _ _ => o
def Ex.col : Ex → Int | .mk _ c _ _ => c
def Ex.v : Ex → Val | .mk _ _ v _ => v
def Ex.l : Ex → List Ex | .mk _ _ _ l => l
theorem Ex.pv_eq (e : Ex) : e.pv = .agg [.int .i64 e.op, .int .i64 e.col, .int .i64 e.v.K, .int .i64 e.v.N, .slice 6 (e.l.map Ex.pv)] := by cases e; exact Ex.pv_mk ..
@[simp] theorem Ex.c_mk (e : Ex) {R : Type} (f : Int → Int → Int → Int → List PV → Option R) : zG e.pv f = f e.op e.col e.v.K e.v.N (e.l.map Ex.pv) := by rw [Ex.pv_eq]; rfl
theorem Ex.fold (e : Ex) : PV.agg [.int .i64 e.op, .int .i64 e.col, .int .i64 e.v.K, .int .i64 e.v.N, .slice 6 (e.l.map Ex.pv)] = e.pv := e.pv_eq.symm
mutual
def Ex.sz : Ex → Nat
 | .mk _ _ _ l => Ex.szL l + 1
def Ex.szL : List Ex → Nat
 | [] => 0
 | e :: r => e.sz + Ex.szL r
end
theorem Ex.sz_pos (e : Ex) : 0 < e.sz := by cases e; simp [Ex.sz]
theorem Ex.szL_ge : ∀ l : List Ex, l.length ≤ Ex.szL l
 | [] => Nat.le_refl _
 | e :: r => by have := Ex.szL_ge r; have := e.sz_pos; simp only [Ex.szL, List.length_cons]; omega
theorem Ex.sz_mem : ∀ {l : List Ex} {e : Ex}, e ∈ l → e.sz ≤ Ex.szL l
 | x :: r, e, h => by
  rcases List.mem_cons.1 h with rfl | h
  ·simp only [Ex.szL]; omega
  ·have := Ex.sz_mem h; simp only [Ex.szL]; omega
theorem Ex.sz_drop (l : List Ex) (i : Nat) (hi : i < l.length) : Ex.szL (l.drop i) = l[i].sz + Ex.szL (l.drop (i + 1)) := by rw [List.drop_eq_getElem_cons hi]; rfl
def lowO (o : Int) : Int := bif decide (2 ≤ o) && decide (o ≤ 7) then 2 else bif o == 10 then 1 else 0
def zNu (o : Int) : Int := bif decide (2 ≤ o) && decide (o ≤ 7) then 2 else bif o == 10 then 1 else bif o == 8 || o == 9 then 4 else 0
def fnO (o : Int) : PV :=
 bif o == 2 then .fn zAp [] [.imm 0 (.fn zHm [] []) 0] else bif o == 3 then .fn zAp [] [.imm 0 (.fn zHn [] []) 0] else
 bif o == 4 then .fn zAp [] [.imm 0 (.fn zHo [] []) 0] else bif o == 5 then .fn zAp [] [.imm 0 (.fn zHp [] []) 0] else
 bif o == 6 then .fn zAp [] [.imm 0 (.fn zJj [] []) 0] else bif o == 7 then .fn zAp [] [.imm 0 (.fn zJk [] []) 0] else
 bif o == 8 then .fn zD4 [] [] else bif o == 9 then .fn zD5 [] [] else bif o == 10 then .fn zD6 [] [] else .nilfn
theorem zVU (o : Int) : wc W zFM [.int .i64 o] = some (.agg [.int .i64 (lowO o), .int .i64 (zNu o), fnO o]) := by
 have two : ∀ g : Nat, wc W zC1 [.fn g [] []] = some (.agg [.int .i64 2, .int .i64 2, .fn zAp [] [.imm 0 (.fn g [] []) 0]]) := fun g => by rw [zRY]; rfl
 rw [zPJ]
 simp only [two, Option.bind_some, c_g_i64_i64_p_mk]
 unfold lowO zNu fnO
 by_cases h2 : o = 2
 ·subst h2; rfl
 by_cases h3 : o = 3
 ·subst h3; rfl
 by_cases h4 : o = 4
 ·subst h4; rfl
 by_cases h5 : o = 5
 ·subst h5; rfl
 by_cases h6 : o = 6
 ·subst h6; rfl
 by_cases h7 : o = 7
 ·subst h7; rfl
 by_cases h8 : o = 8
 ·subst h8; rfl
 by_cases h9 : o = 9
 ·subst h9; rfl
 by_cases h10 : o = 10
 ·subst h10; rfl
 have hr : (decide (2 ≤ o) && decide (o ≤ 7)) = false := by
  rw [← Bool.decide_and]; exact decide_eq_false (by omega)
 rw [zER h2, zER h3, zER h4, zER h5, zER h6, zER h7, zER h8, zER h9, zER h10, hr]
 rfl
def zNv (o c : Int) (v : Val) (n : Nat) : Bool :=
 decide (0 ≤ o) && decide (o < 11) && (decide (lowO o ≤ (n : Int)) && decide ((n : Int) ≤ zNu o)) && (c == 0 || (o == 1 && decide (0 < c) && decide (c ≤ 15))) && ((v.K == 0 && v.N == 0) || (o == 0 && mayV v))
theorem zXw (e : Ex) : wc W zHM [e.pv] = some (.bool (zNv e.op e.col e.v e.l.length)) := by
 have h := zPH e.op e.col e.v.K e.v.N (e.l.map Ex.pv)
 rw [Ex.fold] at h
 rw [h, zVU, List.length_map]
 simp only [Option.bind_some, c_g_i64_i64_p_mk]
 have h3 : ∀ b1 b2 b3 x y z, zCk e.op e.col e.v.K e.v.N (e.l.map Ex.pv) b1 b2 b3 x y z = some (.bool (decide (0 ≤ e.op) && decide (e.op < 11) && b1 && b2 && b3)) := fun b1 b2 b3 x y z => by
  rw [zJ7]
  have : decide (e.op ≥ 0) = decide (0 ≤ e.op) := rfl
  rw [this]
  cases decide (0 ≤ e.op) <;> cases decide (e.op < 11) <;> cases b1 <;> cases b2 <;> rfl
 have h2 : ∀ b1 b2 x y z, zCD e.op e.col e.v.K e.v.N (e.l.map Ex.pv) b1 b2 x y z = some (.bool (decide (0 ≤ e.op) && decide (e.op < 11) && b1 && b2 && ((e.v.K == 0 && e.v.N == 0) || (e.op == 0 && mayV e.v)))) := fun b1 b2 x y z => by
  rw [zJ6]
  cases e.v.K == 0 <;> cases e.v.N == 0 <;> cases e.op == 0 <;> simp [h3, zIA]
 have h1 : ∀ b1 x y z, zDb e.op e.col e.v.K e.v.N (e.l.map Ex.pv) b1 x y z = some (.bool (decide (0 ≤ e.op) && decide (e.op < 11) && b1 && (e.col == 0 || (e.op == 1 && decide (0 < e.col) && decide (e.col ≤ 15))) && ((e.v.K == 0 && e.v.N == 0) || (e.op == 0 && mayV e.v)))) := fun b1 x y z => by
  rw [zJ5]
  have : decide (e.col > 0) = decide (0 < e.col) := rfl
  rw [this]
  cases e.col == 0 <;> cases e.op == 1 <;> cases decide (0 < e.col) <;> simp [h2]
 simp only [h1]
 unfold zNv
 have : decide (((e.l.length : Nat) : Int) ≥ lowO e.op) = decide (lowO e.op ≤ (e.l.length : Int)) := rfl
 rw [this]
 cases decide (lowO e.op ≤ (e.l.length : Int)) <;> simp
def zM6 (d n : Int) (e : Ex) : Bool := decide (n + 1 ≤ 30) && decide (d ≤ 6) && zNv e.op e.col e.v e.l.length
mutual
def mayE : Int → Int → Ex → Bool × Int
 | d, n, .mk o c v l => bif decide (n + 1 ≤ 30) && decide (d ≤ 6) && zNv o c v l.length then mayL (d + 1) (n + 1) l else (false, n + 1)
def mayL : Int → Int → List Ex → Bool × Int
 | d, n, [] => (true, n)
 | d, n, e :: r => match mayE d n e with | (true, m) => mayL d m r | (false, m) => (false, m)
end
theorem zPR (d n : Int) (e : Ex) : mayE d n e = bif zM6 d n e then mayL (d + 1) (n + 1) e.l else (false, n + 1) := by cases e; rfl
theorem zXx (e : Ex) (d n : Int) (h0 : 0 ≤ n) (h1 : n ≤ 30) :
 W zB7 false [.pv e.pv, .pv (.int .i64 d), .own 0 0] [.var false 0 (.pv (.int .i64 n))] = some (.pv (.bool (zM6 d n e)), [.var false 0 (.pv (.int .i64 (n + 1)))]) := by
 have h := zIn e.op e.col e.v.K e.v.N (e.l.map Ex.pv) d n
 rw [Ex.fold] at h
 rw [h, zA3 (by omega) (by omega), zXw]
 unfold zM6
 cases decide (n + 1 ≤ 30) <;> cases decide (d ≤ 6) <;> rfl
theorem zLh : ∀ (k : Nat), (∀ (e : Ex) (d n : Int), e.sz ≤ k → 0 ≤ n → n ≤ 30 → 0 ≤ (mayE d n e).2 ∧ (mayE d n e).2 ≤ 31 ∧ ((mayE d n e).1 = true → (mayE d n e).2 = n + e.sz ∧ (mayE d n e).2 ≤ 30)) ∧
 (∀ (l : List Ex) (d n : Int), Ex.szL l ≤ k → 0 ≤ n → n ≤ 30 → 0 ≤ (mayL d n l).2 ∧ (mayL d n l).2 ≤ 31 ∧ ((mayL d n l).1 = true → (mayL d n l).2 = n + Ex.szL l ∧ (mayL d n l).2 ≤ 30))
 | k => by
  have hE : ∀ (e : Ex) (d n : Int), (∀ (l : List Ex) (d n : Int), Ex.szL l < e.sz → 0 ≤ n → n ≤ 30 → 0 ≤ (mayL d n l).2 ∧ (mayL d n l).2 ≤ 31 ∧ ((mayL d n l).1 = true → (mayL d n l).2 = n + Ex.szL l ∧ (mayL d n l).2 ≤ 30)) → 0 ≤ n → n ≤ 30 →
   0 ≤ (mayE d n e).2 ∧ (mayE d n e).2 ≤ 31 ∧ ((mayE d n e).1 = true → (mayE d n e).2 = n + e.sz ∧ (mayE d n e).2 ≤ 30) := fun e d n ih h0 h1 => by
   rw [zPR]
   cases hs : zM6 d n e with
   | false =>
    refine ⟨?_, ?_, fun h => ?_⟩
    ·show 0 ≤ n + 1; omega
    ·show n + 1 ≤ 31; omega
    ·cases h
   | true =>
    simp only [cond_true]
    have h30 : n + 1 ≤ 30 := by
     unfold zM6 at hs
     simp only [Bool.and_eq_true, decide_eq_true_eq] at hs
     exact hs.1.1
    have hsz : e.sz = Ex.szL e.l + 1 := by cases e; rfl
    obtain ⟨a, b, c⟩ := ih e.l (d + 1) (n + 1) (by omega) (by omega) h30
    exact ⟨a, b, fun h => by have := c h; omega⟩
  have hL : ∀ (l : List Ex) (d n : Int), (∀ e ∈ l, ∀ (d n : Int), 0 ≤ n → n ≤ 30 → 0 ≤ (mayE d n e).2 ∧ (mayE d n e).2 ≤ 31 ∧ ((mayE d n e).1 = true → (mayE d n e).2 = n + e.sz ∧ (mayE d n e).2 ≤ 30)) → 0 ≤ n → n ≤ 30 →
   0 ≤ (mayL d n l).2 ∧ (mayL d n l).2 ≤ 31 ∧ ((mayL d n l).1 = true → (mayL d n l).2 = n + Ex.szL l ∧ (mayL d n l).2 ≤ 30) := fun l => by
   induction l with
   | nil => intro d n _ h0 h1; refine ⟨h0, ?_, fun _ => ⟨?_, h1⟩⟩ <;> simp [mayL, Ex.szL]; omega
   | cons x r ih =>
    intro d n he h0 h1
    have k := he x (by simp) d n h0 h1
    simp only [mayL]
    cases hx : mayE d n x with
    | mk b m =>
     rw [hx] at k
     cases b with
     | false => exact ⟨k.1, k.2.1, fun h => by cases h⟩
     | true =>
      obtain ⟨k1, k2⟩ := k.2.2 rfl
      simp only at k1 k2 k ⊢
      obtain ⟨a, b, c⟩ := ih d m (fun e h => he e (by simp [h])) k.1 k2
      exact ⟨a, b, fun h => by have := c h; simp only [Ex.szL]; omega⟩
  have main : ∀ (m : Nat) (e : Ex), e.sz ≤ m → ∀ (d n : Int), 0 ≤ n → n ≤ 30 → 0 ≤ (mayE d n e).2 ∧ (mayE d n e).2 ≤ 31 ∧ ((mayE d n e).1 = true → (mayE d n e).2 = n + e.sz ∧ (mayE d n e).2 ≤ 30) := fun m => by
   induction m with
   | zero => intro e h; have := e.sz_pos; omega
   | succ m ih =>
    intro e h d n h0 h1
    exact hE e d n (fun l d n hl h0 h1 => hL l d n (fun x hx => ih x (by have := Ex.sz_mem hx; omega)) h0 h1) h0 h1
  exact ⟨fun e d n _ => main e.sz e (Nat.le_refl _) d n, fun l d n _ => hL l d n fun e _ => main e.sz e (Nat.le_refl _)⟩
theorem zTP : ∀ (m : Nat) (e : Ex), e.sz ≤ m → ∀ (d n : Int), e.l.length ≤ 9223372036854775807 → (∀ (x : Ex), x.sz < e.sz → x.l.length ≤ 9223372036854775807) → 0 ≤ n → n ≤ 30 → d ≤ 9 → -9 ≤ d →
 W zBs false [.pv e.pv, .pv (.int .i64 d), .fnv zB7 [] [.own 0 0]] [.var false 0 (.pv (.int .i64 n))] = some (.pv (.bool (mayE d n e).1), [.var false 0 (.pv (.int .i64 (mayE d n e).2))])
 | 0, e, h, _, _, _, _, _, _, _, _ => by have := e.sz_pos; omega
 | m + 1, e, h, d, n, hl, hx, h0, h1, hd, hd' => by
  have he := zJ2 e.op e.col e.v.K e.v.N (e.l.map Ex.pv) d n
  rw [Ex.fold] at he
  rw [he, zXx e d n h0 h1, zPR]
  simp only [Option.bind_some, k_5b106d_mk, c_b_mk]
  cases hs : zM6 d n e with
  | false => rfl
  | true =>
   simp only [Bool.not_true, cond_false, cond_true, List.length_map]
   have hs' := hs
   unfold zM6 at hs'
   simp only [Bool.and_eq_true, decide_eq_true_eq] at hs'
   obtain ⟨⟨h30, h6⟩, _⟩ := hs'
   have hsz : e.sz = Ex.szL e.l + 1 := by cases e; rfl
   have loop : ∀ (k i : Nat) (n' : Int), i + k = e.l.length → 0 ≤ n' → n' ≤ 30 →
    zCQ d (e.l.map Ex.pv) (e.l.length : Int) (i : Int) n' = some (.pv (.bool (mayL (d + 1) n' (e.l.drop i)).1), [.var false 0 (.pv (.int .i64 (mayL (d + 1) n' (e.l.drop i)).2))]) := fun k => by
    induction k with
    | zero =>
     intro i n' hi _ _
     rw [zEG, show i = e.l.length by omega]
     simp only [zCt, cond_false, List.drop_length, mayL]
    | succ k ih =>
     intro i n' hi h0' h1'
     have hi' : i < e.l.length := by omega
     have hm := Ex.sz_mem (List.getElem_mem hi')
     rw [zEG, List.drop_eq_getElem_cons hi']
     simp only [zAZ hi', zAM, cond_true, Int.toNat_natCast, List.getElem?_map, List.getElem?_eq_getElem hi', Option.map_some, Option.bind_some, Ex.c_mk, Ex.fold]
     rw [zA3 (by omega) (by omega), zTP m e.l[i] (by omega) (d + 1) n' (hx _ (by omega)) (fun x hx' => hx x (by omega)) h0' h1' (by omega) (by omega)]
     simp only [Option.bind_some, k_5b106d_mk, c_b_mk, mayL]
     have hb := (zLh e.l[i].sz).1 e.l[i] (d + 1) n' (Nat.le_refl _) h0' h1'
     cases hy : mayE (d + 1) n' e.l[i] with
     | mk b q =>
      rw [hy] at hb
      cases b with
      | false => rfl
      | true =>
       simp only [Bool.not_true, cond_false]
       rw [zP (by omega)]
       exact ih (i + 1) q (by omega) hb.1 (hb.2.2 rfl).2
   have := loop e.l.length 0 (n + 1) (by omega) (by omega) h30
   rw [List.drop_zero] at this
   exact this
def mayT (e : Ex) : Bool := (mayE 1 0 e).1
def Ex.ok (e : Ex) : Prop := ∀ x : Ex, x.sz ≤ e.sz → x.l.length ≤ 9223372036854775807
theorem Ex.ok_of {e : Ex} (h : e.sz ≤ 9223372036854775807) : e.ok := fun x hx => by
 have h1 : x.sz = Ex.szL x.l + 1 := by cases x; rfl
 have := Ex.szL_ge x.l
 omega
theorem zLi (e : Ex) (h : e.ok) : wc W zG5 [e.pv] = some (.bool (mayT e)) := by
 have he := zRR e.op e.col e.v.K e.v.N (e.l.map Ex.pv)
 rw [Ex.fold] at he
 rw [he, zTP e.sz e (Nat.le_refl _) 1 0 (h e (Nat.le_refl _)) (fun x hx => h x (by omega)) (by omega) (by omega) (by omega) (by omega)]
 rfl
theorem zPS {e : Ex} (h : mayT e = true) : e.sz ≤ 30 := by
 have := ((zLh e.sz).1 e 1 0 (Nat.le_refl _) (by omega) (by omega)).2.2 h
 omega
end Go.Cf

namespace Go.Cf
open Go Go.Ab
set_option linter.unusedVariables false
set_option linter.unusedSimpArgs false
theorem zWG {n : Int} (h : inI n = true) : I64 n := by unfold inI at h; simp only [Bool.and_eq_true, decide_eq_true_eq] at h; exact h
theorem zIq {l : List Val} {v : Val} (h : oddV l = some v) : VOk v := by
 unfold oddV at h
 cases h1 : l.any (fun v => (zKu v).K == 2) with
 | true => rw [h1] at h; simp at h; subst h; exact ⟨⟨by decide, by decide⟩, ⟨by decide, by decide⟩⟩
 | false =>
  rw [h1] at h
  cases h2 : l.any (fun v => (zKu v).K == 1) with
  | true => rw [h2] at h; simp at h; subst h; exact ⟨⟨by decide, by decide⟩, ⟨by decide, by decide⟩⟩
  | false => rw [h2] at h; cases h
theorem vN {n : Int} (h : I64 n) : VOk ⟨0, n⟩ := ⟨⟨by simp only; omega, by simp only; omega⟩, h⟩
theorem zTQ : VOk badV := ⟨⟨by decide, by decide⟩, ⟨by decide, by decide⟩⟩
theorem zPT (b : Bool) : VOk (oneV b) := by cases b <;> exact ⟨⟨by decide, by decide⟩, ⟨by decide, by decide⟩⟩
theorem zJo {a b : Val} {f : Int → Int → Option Int} (hf : ∀ n, f a.N b.N = some n → I64 n) : VOk (zJb a b f) := by
 unfold zJb
 cases h : oddV [a, b] with
 | some v => exact zIq h
 | none =>
  simp only
  cases hn : f a.N b.N with
  | none => exact zTQ
  | some n => exact vN (hf n hn)
def opV (o : Int) (l : List Val) : Val :=
 bif o == 2 then zJb (l.getD 0 badV) (l.getD 1 badV) addO else bif o == 3 then zJb (l.getD 0 badV) (l.getD 1 badV) subO else
 bif o == 4 then zJb (l.getD 0 badV) (l.getD 1 badV) mulO else bif o == 5 then zJb (l.getD 0 badV) (l.getD 1 badV) divO else
 bif o == 6 then eqV (l.getD 0 badV) (l.getD 1 badV) else bif o == 7 then ltV (l.getD 0 badV) (l.getD 1 badV) else
 bif o == 8 then andV l else bif o == 9 then orV l else notV (l.getD 0 badV)
theorem ok0 : VOk ⟨0, 0⟩ := ⟨⟨by decide, by decide⟩, ⟨by decide, by decide⟩⟩
theorem ok1 : VOk ⟨0, 1⟩ := ⟨⟨by decide, by decide⟩, ⟨by decide, by decide⟩⟩
theorem zWH (l : List Val) : VOk (andV l) := by
 unfold andV
 cases l.any zNt with
 | true => exact ok0
 | false => cases h : oddV l with
  | some v => exact zIq h
  | none => exact ok1
theorem zXy (l : List Val) : VOk (orV l) := by
 unfold orV
 cases l.any zR2 with
 | true => exact ok1
 | false => cases h : oddV l with
  | some v => exact zIq h
  | none => exact ok0
theorem zWI {x y : Int} (hx : I64 x) (hy : I64 y) {n : Int} (h : divO x y = some n) : I64 n := by
 unfold divO at h
 cases hc : (y == 0 || (x == -9223372036854775808 && y == -1)) with
 | true => rw [hc] at h; cases h
 | false =>
  rw [hc] at h
  simp only [cond_false, Option.some.injEq] at h
  subst h
  obtain ⟨a1, a2⟩ := hx
  have h1 : (Int.tdiv x y).natAbs ≤ x.natAbs := by
   rw [Int.natAbs_tdiv]
   exact Nat.div_le_self _ _
  refine ⟨by omega, ?_⟩
  by_cases hm : Int.tdiv x y = 9223372036854775808
  ·exfalso
   have hA : x = -9223372036854775808 := by omega
   simp only [Bool.or_eq_false_iff, Bool.and_eq_false_iff, beq_eq_false_iff_ne, ne_eq] at hc
   have hy1 : y ≠ -1 := by
    rcases hc.2 with h | h
    ·exact absurd hA h
    ·exact h
   subst hA
   have h2 : (Int.tdiv (-9223372036854775808) y).natAbs = 9223372036854775808 / y.natAbs := by rw [Int.natAbs_tdiv]; rfl
   rw [hm] at h2
   have h3 : y.natAbs = 1 := by
    rcases Nat.lt_or_ge y.natAbs 2 with h | h
    ·have := hc.1; omega
    ·have : 9223372036854775808 / y.natAbs ≤ 9223372036854775808 / 2 := Nat.div_le_div_left h (by omega)
     have h4 : (9223372036854775808 : Int).natAbs = 9223372036854775808 := rfl
     omega
   have hb2 : y = 1 := by omega
   rw [hb2] at hm
   simp at hm
  ·omega
theorem zTR {l : List Val} (h : ∀ v ∈ l, VOk v) (i : Nat) : VOk (l.getD i badV) := by
 rw [List.getD_eq_getElem?_getD]
 cases e : l[i]? with
 | none => exact zTQ
 | some v => exact h v (List.mem_of_getElem? e)
theorem zXz (o : Int) {l : List Val} (h : ∀ v ∈ l, VOk v) : VOk (opV o l) := by
 have a := zTR h 0
 have b := zTR h 1
 unfold opV
 have o1 : ∀ {f : Int → Int → Int} {x y n : Int}, (bif inI (f x y) then some (f x y) else none) = some n → I64 n := fun {f x y n} hn => by
  cases hi : inI (f x y) with
  | true => rw [hi] at hn; simp at hn; subst hn; exact zWG hi
  | false => rw [hi] at hn; cases hn
 cases o == 2 with
 | true => exact zJo fun n hn => o1 (f := fun x y => x + y) hn
 | false =>
 cases o == 3 with
 | true => exact zJo fun n hn => o1 (f := fun x y => x - y) hn
 | false =>
 cases o == 4 with
 | true => exact zJo fun n hn => o1 (f := fun x y => x * y) hn
 | false =>
 cases o == 5 with
 | true => exact zJo fun n hn => zWI a.2 b.2 hn
 | false =>
 cases o == 6 with
 | true =>
  show VOk (eqV _ _)
  unfold eqV
  cases e : oddV [l.getD 0 badV, l.getD 1 badV] with
  | some v => exact zIq e
  | none => exact zPT _
 | false =>
 cases o == 7 with
 | true =>
  show VOk (ltV _ _)
  unfold ltV
  cases e : oddV [l.getD 0 badV, l.getD 1 badV] with
  | some v => exact zIq e
  | none => exact zPT _
 | false =>
 cases o == 8 with
 | true => exact zWH l
 | false =>
 cases o == 9 with
 | true => exact zXy l
 | false =>
  show VOk (notV _)
  unfold notV
  cases e : oddV [l.getD 0 badV] with
  | some v => exact zIq e
  | none => exact zPT _
theorem zYA {l : List Val} (h : l.length = 2) : ∃ a b, l = [a, b] := by
 match l, h with
 | [a, b], _ => exact ⟨a, b, rfl⟩
theorem zLj (l : List Val) (g : Nat) (v : Val) (a b : Val) (hl : l = [a, b]) (hg : wc W g [a.pv, b.pv] = some v.pv) : wc W zAp [rowp l, .imm 0 (.fn g [] []) 0] = some v.pv := by
 subst hl
 have h := zNn ([a, b].map Val.pv) (.fn g [] [])
 rw [zR] at h
 rw [h]
 simp only [List.map_cons, List.map_nil, List.getElem?_cons_zero, List.getElem?_cons_succ, Option.bind_some, Val.c_mk, Val.fold, asFn_mk, List.nil_append, List.append_nil, hg]
theorem w_op (o : Int) (l : List Val) (h0 : 0 ≤ o) (h11 : o < 11) (h2 : 2 ≤ o) (hlo : lowO o ≤ (l.length : Int)) (hhi : (l.length : Int) ≤ zNu o) (hl : ∀ v ∈ l, VOk v) :
 ∃ g fs cs, fnO o = .fn g fs cs ∧ wc W g (fs ++ [rowp l] ++ cs) = some (opV o l).pv := by
 have two : (2 ≤ o ∧ o ≤ 7) → ∃ a b, l = [a, b] := fun h => zYA (by
  unfold lowO zNu at *
  rw [decide_eq_true h.1, decide_eq_true h.2] at hlo hhi
  simp only [Bool.and_self, cond_true] at hlo hhi
  omega)
 have hlen : l.length ≤ 9223372036854775807 := by
  unfold zNu at hhi
  cases hb : (decide (2 ≤ o) && decide (o ≤ 7)) <;> rw [hb] at hhi
  ·cases h10 : (o == 10) <;> rw [h10] at hhi
   ·cases h8 : (o == 8 || o == 9) <;> rw [h8] at hhi <;> simp only [cond_true, cond_false] at hhi <;> omega
   ·simp only [cond_true, cond_false] at hhi; omega
  ·simp only [cond_true] at hhi; omega
 by_cases e2 : o = 2
 ·obtain ⟨a, b, e⟩ := two (by omega)
  subst e2; subst e
  exact ⟨_, _, _, rfl, zLj _ _ _ a b rfl (zY5 a b (hl a (by simp)).2 (hl b (by simp)).2)⟩
 by_cases e3 : o = 3
 ·obtain ⟨a, b, e⟩ := two (by omega)
  subst e3; subst e
  exact ⟨_, _, _, rfl, zLj _ _ _ a b rfl (zY6 a b (hl a (by simp)).2 (hl b (by simp)).2)⟩
 by_cases e4 : o = 4
 ·obtain ⟨a, b, e⟩ := two (by omega)
  subst e4; subst e
  exact ⟨_, _, _, rfl, zLj _ _ _ a b rfl (zYa a b (hl a (by simp)).2 (hl b (by simp)).2)⟩
 by_cases e5 : o = 5
 ·obtain ⟨a, b, e⟩ := two (by omega)
  subst e5; subst e
  exact ⟨_, _, _, rfl, zLj _ _ _ a b rfl (zY7 a b (hl a (by simp)).2 (hl b (by simp)).2)⟩
 by_cases e6 : o = 6
 ·obtain ⟨a, b, e⟩ := two (by omega)
  subst e6; subst e
  exact ⟨_, _, _, rfl, zLj _ _ _ a b rfl (w_Eq a b)⟩
 by_cases e7 : o = 7
 ·obtain ⟨a, b, e⟩ := two (by omega)
  subst e7; subst e
  exact ⟨_, _, _, rfl, zLj _ _ _ a b rfl (w_Lt a b)⟩
 by_cases e8 : o = 8
 ·subst e8
  refine ⟨_, _, _, rfl, ?_⟩
  have h := zM0 (l.map Val.pv)
  rw [zR] at h
  show wc W zD4 [rowp l] = _
  rw [h, zY9 l hlen]; rfl
 by_cases e9 : o = 9
 ·subst e9
  refine ⟨_, _, _, rfl, ?_⟩
  have h := zM1 (l.map Val.pv)
  rw [zR] at h
  show wc W zD5 [rowp l] = _
  rw [h, w_Or l hlen]; rfl
 have e10 : o = 10 := by omega
 subst e10
 refine ⟨_, _, _, rfl, ?_⟩
 have h := zM2 (l.map Val.pv)
 rw [zR] at h
 show wc W zD6 [rowp l] = _
 rw [h]
 have h1 : l.length = 1 := by
  have a : lowO 10 = 1 := rfl
  have b : zNu 10 = 1 := rfl
  rw [a] at hlo; rw [b] at hhi; omega
 match l, h1 with
 | [a], _ =>
  simp only [List.map_cons, List.map_nil, List.getElem?_cons_zero, Option.bind_some, Val.c_mk, Val.fold, zY8]
  rfl
mutual
def zID (look : Int → Val) : Ex → Val
 | .mk o c v l => bif o == 0 then v else bif o == 1 then look c else opV o (zUb look l)
def zUb (look : Int → Val) : List Ex → List Val
 | [] => []
 | e :: r => zID look e :: zUb look r
end
theorem zNw (look : Int → Val) : ∀ l : List Ex, zUb look l = l.map (zID look)
 | [] => rfl
 | e :: r => by rw [zUb, zNw look r]; rfl
theorem zJp (look : Int → Val) (e : Ex) : zID look e = bif e.op == 0 then e.v else bif e.op == 1 then look e.col else opV e.op (e.l.map (zID look)) := by
 cases e; rw [zID, zNw]; rfl
mutual
def Ex.vals : Ex → Prop
 | .mk _ _ v l => VOk v ∧ Ex.valsL l
def Ex.valsL : List Ex → Prop
 | [] => True
 | e :: r => e.vals ∧ Ex.valsL r
end
theorem Ex.valsL_mem : ∀ {l : List Ex}, Ex.valsL l → ∀ e ∈ l, e.vals
 | x :: r, h, e, he => by
  rcases List.mem_cons.1 he with rfl | he
  ·exact h.1
  ·exact Ex.valsL_mem h.2 e he
theorem Ex.vals_v {e : Ex} (h : e.vals) : VOk e.v ∧ ∀ x ∈ e.l, x.vals := by
 cases e; exact ⟨h.1, Ex.valsL_mem h.2⟩
mutual
def zJP : Ex → Bool
 | .mk o c v l => zNv o c v l.length && zQF l
def zQF : List Ex → Bool
 | [] => true
 | e :: r => zJP e && zQF r
end
theorem zLk : ∀ l : List Ex, zQF l = l.all zJP
 | [] => rfl
 | e :: r => by rw [zQF, zLk r]; rfl
theorem zNx (e : Ex) : zJP e = (zNv e.op e.col e.v e.l.length && e.l.all zJP) := by cases e; rw [zJP, zLk]; rfl
theorem zJQ : ∀ (m : Nat) (e : Ex), e.sz ≤ m → ∀ d n, (mayE d n e).1 = true → zJP e = true
 | 0, e, h, _, _, _ => by have := e.sz_pos; omega
 | m + 1, e, h, d, n, hm => by
  rw [zPR] at hm
  cases hs : zM6 d n e with
  | false => rw [hs] at hm; cases hm
  | true =>
   rw [hs] at hm
   simp only [cond_true] at hm
   have hp : zNv e.op e.col e.v e.l.length = true := by unfold zM6 at hs; simp only [Bool.and_eq_true] at hs; exact hs.2
   rw [zNx, hp, Bool.true_and, List.all_eq_true]
   have hsz : e.sz = Ex.szL e.l + 1 := by cases e; rfl
   have hl : ∀ (l : List Ex) (d n : Int), Ex.szL l ≤ m → (mayL d n l).1 = true → ∀ x ∈ l, zJP x = true := fun l => by
    induction l with
    | nil => intro _ _ _ _ x hx; cases hx
    | cons y r ih =>
     intro d n hsz hm x hx
     simp only [Ex.szL] at hsz
     simp only [mayL] at hm
     cases hy : mayE d n y with
     | mk b q =>
      rw [hy] at hm
      cases b with
      | false => cases hm
      | true =>
       rcases List.mem_cons.1 hx with rfl | hx
       ·exact zJQ m x (by omega) d n (by rw [hy])
       ·exact ih d q (by omega) hm x hx
   exact hl e.l (d + 1) (n + 1) (by omega) hm
theorem zQG (look : Int → Val) (hlk : ∀ c, VOk (look c)) : ∀ (m : Nat) (e : Ex), e.sz ≤ m → e.vals → VOk (zID look e)
 | 0, e, h, _ => by have := e.sz_pos; omega
 | m + 1, e, h, hv => by
  rw [zJp]
  obtain ⟨h1, h2⟩ := Ex.vals_v hv
  have hsz : e.sz = Ex.szL e.l + 1 := by cases e; rfl
  cases e.op == 0 with
  | true => exact h1
  | false =>
   cases e.op == 1 with
   | true => exact hlk _
   | false =>
    refine zXz _ fun v hv => ?_
    obtain ⟨x, hx, rfl⟩ := List.mem_map.1 hv
    exact zQG look hlk m x (by have := Ex.sz_mem hx; omega) (h2 x hx)
theorem zVV (cols : List Int) (row : List Val) (hc : cols.length ≤ 9223372036854775807) (hr : ∀ v ∈ row, VOk v) : ∀ (m : Nat) (e : Ex), e.sz ≤ m → e.sz ≤ 4294967295 → zJP e = true → e.vals →
 wc W zFL [e.pv, zAs cols, rowp row] = some (zID (zCc cols row) e).pv
 | 0, e, h, _, _, _ => by have := e.sz_pos; omega
 | m + 1, e, h, hs, hp, hv => by
  have he := zPI e.op e.col e.v.K e.v.N (e.l.map Ex.pv) (cols.map intp) (row.map Val.pv)
  rw [Ex.fold, zA, zR] at he
  rw [he, zJp]
  have hsz : e.sz = Ex.szL e.l + 1 := by cases e; rfl
  have hle := Ex.szL_ge e.l
  rw [zNx, Bool.and_eq_true, List.all_eq_true] at hp
  obtain ⟨hp1, hp2⟩ := hp
  obtain ⟨hv1, hv2⟩ := Ex.vals_v hv
  cases h0 : e.op == 0 with
  | true => rfl
  | false =>
   cases h1 : e.op == 1 with
   | true =>
    simp only [cond_false, cond_true, zPP cols e.col hc, Option.bind_some, c_i64_mk, List.length_map]
    unfold zCc
    cases ha : decide (idxI cols (fun x => e.col == x) < 0) with
    | true => rfl
    | false =>
     simp only [cond_false]
     have hb0 : decide (idxI cols (fun x => e.col == x) ≥ (row.length : Int)) = decide (idxI cols (fun x => e.col == x) ≥ (row.length : Int)) := rfl
     cases hb : decide (idxI cols (fun x => e.col == x) ≥ (row.length : Int)) with
     | true => rfl
     | false =>
      simp only [cond_false]
      have ha' := of_decide_eq_false ha
      have hb' := of_decide_eq_false hb
      rw [zJ8, decide_eq_true (show 0 ≤ idxI cols (fun x => e.col == x) by omega)]
      have hlt : (idxI cols (fun x => e.col == x)).toNat < row.length := by omega
      simp only [cond_true, List.getElem?_map, List.getElem?_eq_getElem hlt, Option.map_some, Option.bind_some, Val.c_mk, Val.fold, List.getD_eq_getElem?_getD, Option.getD_some]
   | false =>
    simp only [cond_false, List.length_map]
    have hop : 2 ≤ e.op ∧ e.op < 11 ∧ lowO e.op ≤ (e.l.length : Int) ∧ (e.l.length : Int) ≤ zNu e.op := by
     unfold zNv at hp1
     simp only [Bool.and_eq_true, decide_eq_true_eq] at hp1
     have a := beq_eq_false_iff_ne.1 h0
     have b := beq_eq_false_iff_ne.1 h1
     omega
    have hok : ∀ v ∈ e.l.map (zID (zCc cols row)), VOk v := fun v hv => by
     obtain ⟨x, hx, rfl⟩ := List.mem_map.1 hv
     exact zQG _ (zU9 cols hr) x.sz x (Nat.le_refl _) (hv2 x hx)
    have loop : ∀ (k i : Nat) (a b : Int), i + k = e.l.length →
     zDc (cols.map intp) (row.map Val.pv) e.op e.col e.v.K e.v.N (e.l.map Ex.pv) (e.l.map Ex.pv) (e.l.length : Int) (i : Int) a b (((e.l.take i).map (zID (zCc cols row))).map Val.pv) = some (opV e.op (e.l.map (zID (zCc cols row)))).pv := fun k => by
     induction k with
     | zero =>
      intro i a b hi
      rw [zF7, show i = e.l.length by omega]
      simp only [zCt, cond_false, zVU, Option.bind_some, c_g_i64_i64_p_mk, List.take_length]
      obtain ⟨g, fs, cs, k1, k2⟩ := w_op e.op (e.l.map (zID (zCc cols row))) (by omega) hop.2.1 hop.1 (by rw [List.length_map]; exact hop.2.2.1) (by rw [List.length_map]; exact hop.2.2.2) hok
      rw [k1]
      simp only [asFn_mk, Option.bind_some, zR, k2, Val.c_mk, Val.fold]
     | succ k ih =>
      intro i a b hi
      have hi' : i < e.l.length := by omega
      have hx := List.getElem_mem hi'
      have hm := Ex.sz_mem hx
      rw [zF7]
      simp only [zAZ hi', zAM, cond_true, Int.toNat_natCast, List.getElem?_map, List.getElem?_eq_getElem hi', Option.map_some, Option.bind_some, Ex.c_mk, Ex.fold, zA, zR]
      rw [zVV cols row hc hr m e.l[i] (by omega) (by omega) (hp2 _ hx) (hv2 _ hx)]
      simp only [Option.bind_some, Val.c_mk, Val.fold, List.length_map, List.length_take, Nat.min_eq_left (Nat.le_of_lt hi'), Bool.true_and, decide_eq_true (show i + 1 ≤ 4294967296 by omega), cond_true]
      rw [zP (by omega)]
      have := ih (i + 1) a b (by omega)
      rw [List.take_succ_eq_append_getElem hi', List.map_append, List.map_append] at this
      exact this
    have := loop e.l.length 0 0 0 (by omega)
    rw [List.take_zero] at this
    exact this
def zUc (e : Ex) (cols : List Int) (row : List Val) : Val := bif mayT e then zID (zCc cols row) e else badV
theorem zYB (e : Ex) (cols : List Int) (row : List Val) (he : e.ok) (hv : e.vals) (hc : cols.length ≤ 9223372036854775807) (hr : ∀ v ∈ row, VOk v) :
 wc W zHL [e.pv, zAs cols, rowp row] = some (zUc e cols row).pv := by
 have h := zPG e.op e.col e.v.K e.v.N (e.l.map Ex.pv) (cols.map intp) (row.map Val.pv)
 rw [Ex.fold, zA, zR] at h
 rw [h, zLi e he]
 simp only [Option.bind_some, c_b_mk]
 unfold zUc
 cases hm : mayT e with
 | false => rfl
 | true =>
  have h30 := zPS hm
  simp only [Bool.not_true, cond_false, cond_true, zVV cols row hc hr e.sz e (Nat.le_refl _) (by omega) (zJQ e.sz e (Nat.le_refl _) 1 0 hm) hv, Option.bind_some, Val.c_mk, Val.fold]
def zHY (e : Ex) (cols : List Int) (row : List Val) : Bool := zR2 (zUc e cols row)
theorem zWJ (e : Ex) (cols : List Int) (row : List Val) (he : e.ok) (hv : e.vals) (hc : cols.length ≤ 9223372036854775807) (hr : ∀ v ∈ row, VOk v) :
 wc W zFu [e.pv, zAs cols, rowp row] = some (.bool (zHY e cols row)) := by
 have h := zNi e.op e.col e.v.K e.v.N (e.l.map Ex.pv) (cols.map intp) (row.map Val.pv)
 rw [Ex.fold, zA, zR] at h
 rw [h, zYB e cols row he hv hc hr]
 simp only [Option.bind_some, Val.c_mk, Val.fold, zVS, c_b_mk]
 rfl
mutual
def zHZ : Ex → List Int
 | .mk o c _ l => (bif o == 1 then [c] else []) ++ zKv l
def zKv : List Ex → List Int
 | [] => []
 | e :: r => zHZ e ++ zKv r
end
theorem zM7 (e : Ex) : zHZ e = (bif e.op == 1 then [e.col] else []) ++ zKv e.l := by cases e; rfl
theorem zR3 (l : List Ex) (i : Nat) (hi : i < l.length) : zKv (l.drop i) = zHZ l[i] ++ zKv (l.drop (i + 1)) := by rw [List.drop_eq_getElem_cons hi]; rfl
theorem zIr : ∀ (m : Nat), (∀ e : Ex, e.sz ≤ m → (zHZ e).length ≤ e.sz) ∧ ∀ l : List Ex, Ex.szL l ≤ m → (zKv l).length ≤ Ex.szL l
 | 0 => ⟨fun e h => by have := e.sz_pos; omega, fun l h => by
  cases l with
  | nil => exact Nat.le_refl _
  | cons e r => have := e.sz_pos; simp only [Ex.szL] at h; omega⟩
 | m + 1 => by
  obtain ⟨h1, h2⟩ := zIr m
  have hE : ∀ e : Ex, e.sz ≤ m + 1 → (zHZ e).length ≤ e.sz := fun e h => by
   have hsz : e.sz = Ex.szL e.l + 1 := by cases e; rfl
   have := h2 e.l (by omega)
   rw [zM7, List.length_append]
   cases e.op == 1 <;> simp <;> omega
  refine ⟨hE, fun l => ?_⟩
  induction l with
  | nil => exact fun _ => Nat.le_refl _
  | cons e r ih =>
   intro h
   simp only [Ex.szL] at h
   have a := hE e (by omega)
   have b := ih (by omega)
   simp only [zKv, Ex.szL, List.length_append]; omega
theorem zWK (e : Ex) (d : Int) (acc : List Int) (h : acc.length + 1 ≤ 4294967296) :
 W zBH false [.pv e.pv, .pv (.int .i64 d), .own 0 0] [.var false 0 (.view 1 0 none), .row false 0 0 (acc.map intp)] =
  some (.pv (.bool true), [.var false 0 (.view 1 0 none), .row false 0 0 ((acc ++ bif e.op == 1 then [e.col] else []).map intp)]) := by
 have he := zHw e.op e.col e.v.K e.v.N (e.l.map Ex.pv) d (acc.map intp)
 rw [Ex.fold] at he
 rw [he, List.length_map]
 cases e.op == 1 with
 | false => simp
 | true =>
  simp only [Bool.true_and, decide_eq_true h, cond_true, List.map_append, List.map_cons, List.map_nil]
  rfl
theorem zTS : ∀ (m : Nat) (e : Ex), e.sz ≤ m → ∀ (d : Int) (acc : List Int), acc.length + e.sz ≤ 4294967295 →
 W zBs false [.pv e.pv, .pv (.int .i64 d), .fnv zBH [] [.own 0 0]] [.var false 0 (.view 1 0 none), .row false 0 0 (acc.map intp)] =
  some (.pv (.bool true), [.var false 0 (.view 1 0 none), .row false 0 0 ((acc ++ zHZ e).map intp)])
 | 0, e, h, _, _, _ => by have := e.sz_pos; omega
 | m + 1, e, h, d, acc, ha => by
  have he := zJ3 e.op e.col e.v.K e.v.N (e.l.map Ex.pv) d (acc.map intp)
  rw [Ex.fold] at he
  have hsz : e.sz = Ex.szL e.l + 1 := by cases e; rfl
  have hge := Ex.szL_ge e.l
  have hc := (zIr e.sz).1 e (Nat.le_refl _)
  have hcl := (zIr (Ex.szL e.l)).2 e.l (Nat.le_refl _)
  rw [he, zWK e d acc (by omega)]
  simp only [Option.bind_some, k_b2223f_mk, c_b_mk, Bool.not_true, cond_false, List.length_map]
  have hx : (acc ++ bif e.op == 1 then [e.col] else []).length ≤ acc.length + 1 := by rw [List.length_append]; cases e.op == 1 <;> simp
  have loop : ∀ (k i : Nat) (ac : List Int), i + k = e.l.length → ac.length + Ex.szL (e.l.drop i) ≤ 4294967295 →
   zCR d (e.l.map Ex.pv) (e.l.length : Int) (i : Int) (ac.map intp) = some (.pv (.bool true), [.var false 0 (.view 1 0 none), .row false 0 0 ((ac ++ zKv (e.l.drop i)).map intp)]) := fun k => by
   induction k with
   | zero =>
    intro i ac hi _
    rw [zEH, show i = e.l.length by omega]
    simp [zCt, zKv]
   | succ k ih =>
    intro i ac hi hb
    have hi' : i < e.l.length := by omega
    have hm := Ex.sz_mem (List.getElem_mem hi')
    rw [Ex.sz_drop e.l i hi'] at hb
    have hci := (zIr e.l[i].sz).1 e.l[i] (Nat.le_refl _)
    rw [zEH]
    simp only [zAZ hi', zAM, cond_true, Int.toNat_natCast, List.getElem?_map, List.getElem?_eq_getElem hi', Option.map_some, Option.bind_some, Ex.c_mk, Ex.fold]
    rw [zTS m e.l[i] (by omega) _ ac (by omega)]
    simp only [Option.bind_some, k_b2223f_mk, c_b_mk, Bool.not_true, cond_false]
    rw [zP (by omega), ih (i + 1) (ac ++ zHZ e.l[i]) (by omega) (by rw [List.length_append]; omega), zR3 e.l i hi', List.append_assoc]
  have := loop e.l.length 0 (acc ++ bif e.op == 1 then [e.col] else []) (by omega) (by rw [List.drop_zero]; omega)
  rw [List.drop_zero, List.append_assoc, ← zM7] at this
  exact this
def zFb (e : Ex) : List Int := bif mayT e then Lib.compact (zEc (zHZ e)) else []
theorem zVW (e : Ex) (he : e.ok) : wc W zFK [e.pv] = some (zAs (zFb e)) := by
 have h := zPD e.op e.col e.v.K e.v.N (e.l.map Ex.pv)
 rw [Ex.fold] at h
 rw [h, zLi e he]
 simp only [Option.bind_some, c_b_mk]
 unfold zFb
 cases hm : mayT e with
 | false => rfl
 | true =>
  have h30 := zPS hm
  have hc := (zIr e.sz).1 e (Nat.le_refl _)
  have h1 := zTS e.sz e (Nat.le_refl _) 1 [] (by simp; omega)
  have h2 := zDN false 0 (zHZ e) (by omega)
  have h3 := zC3 0 (zEc (zHZ e)) (by rw [zFr]; omega)
  simp only [List.map_nil, List.nil_append] at h1
  simp only [Bool.not_true, cond_false, cond_true, h1, Option.bind_some, k_b2223f_mk, c_b_mk]
  have e1 : ∀ l : List Int, l.map intp = l.map (PV.int .i64) := fun _ => rfl
  rw [e1, h2]
  simp only [Option.bind_some, k_cad770_mk, h3, k_b7636c_mk, c_s0_mk]
  rfl
theorem zPU (zs : List Int) (c : Int) : c ∈ Lib.compact zs ↔ c ∈ zs := by
 unfold Lib.compact Lib.compactUpTo
 simp only [List.mem_map, List.mem_filter, List.mem_range]
 constructor
 ·rintro ⟨j, ⟨hj, _⟩, rfl⟩
  have : (zs.toArray[j]! : Int) = zs[j] := by simp [getElem!_pos, hj]
  rw [this]; exact List.getElem_mem hj
 ·intro h
  have hex : ∃ j, j < zs.length ∧ zs.toArray[j]! = c := by
   obtain ⟨j, hj, e⟩ := List.mem_iff_getElem.1 h
   exact ⟨j, hj, by simp [getElem!_pos, hj, e]⟩
  have hmin : ∀ n : Nat, ∀ j, j ≤ n → j < zs.length → zs.toArray[j]! = c → ∃ i, (i < zs.length ∧ Lib.keeps zs.toArray i = true) ∧ zs.toArray[i]! = c := fun n => by
   induction n with
   | zero =>
    intro j hj hl hc
    have : j = 0 := by omega
    subst this
    exact ⟨0, ⟨hl, by simp [Lib.keeps]⟩, hc⟩
   | succ n ih =>
    intro j hj hl hc
    by_cases hk : Lib.keeps zs.toArray j = true
    ·exact ⟨j, ⟨hl, hk⟩, hc⟩
    ·have hk' : ¬ (j = 0 ∨ zs.toArray[j]! ≠ zs.toArray[j - 1]!) := fun h => hk (by unfold Lib.keeps; exact decide_eq_true h)
     have h0 : j ≠ 0 := fun e => hk' (.inl e)
     have h1 : zs.toArray[j]! = zs.toArray[j - 1]! := Classical.byContradiction fun e => hk' (.inr e)
     exact ih (j - 1) (by omega) (by omega) (by rw [← h1]; exact hc)
  obtain ⟨j, hj, hc⟩ := hex
  exact hmin j j (Nat.le_refl _) hj hc
theorem zTT {e : Ex} (h : mayT e = true) (c : Int) : c ∈ zFb e ↔ c ∈ zHZ e := by
 unfold zFb
 rw [h, cond_true, zPU]
 exact zSi
theorem zKw {f g : Int → Val} : ∀ (m : Nat) (e : Ex), e.sz ≤ m → (∀ c ∈ zHZ e, f c = g c) → zID f e = zID g e
 | 0, e, h, _ => by have := e.sz_pos; omega
 | m + 1, e, h, hc => by
  rw [zJp, zJp]
  have hsz : e.sz = Ex.szL e.l + 1 := by cases e; rfl
  rw [zM7] at hc
  cases e.op == 0 with
  | true => rfl
  | false =>
   cases h1 : e.op == 1 with
   | true => exact hc e.col (by rw [h1]; simp)
   | false =>
    simp only [cond_false]
    congr 1
    have hmem : ∀ (l : List Ex) (x : Ex), x ∈ l → ∀ c ∈ zHZ x, c ∈ zKv l := fun l => by
     induction l with
     | nil => intro x hx; cases hx
     | cons y r ih =>
      intro x hx c hc
      simp only [zKv, List.mem_append]
      rcases List.mem_cons.1 hx with rfl | hx
      ·exact .inl hc
      ·exact .inr (ih x hx c hc)
    exact List.map_congr_left fun x hx => zKw m x (by have := Ex.sz_mem hx; omega) fun c hcx => hc c (by rw [List.mem_append]; exact .inr (hmem e.l x hx c hcx))
theorem zEI {e : Ex} {cols cols' : List Int} {row row' : List Val} (h : ∀ c ∈ zFb e, zCc cols row c = zCc cols' row' c) : zHY e cols row = zHY e cols' row' := by
 unfold zHY zUc
 cases hm : mayT e with
 | false => rfl
 | true => simp only [cond_true]; rw [zKw e.sz e (Nat.le_refl _) fun c hc => h c ((zTT hm c).2 hc)]
end Go.Cf

namespace Go.Cf
open Go Go.Ab
set_option linter.unusedVariables false
set_option linter.unusedSimpArgs false
theorem zM8 {α : Type} (ls : List (List α)) (i : Nat) (hi : i < ls.length) : (ls.drop i).flatten.length = ls[i].length + (ls.drop (i + 1)).flatten.length := by
 rw [List.drop_eq_getElem_cons hi, List.flatten_cons, List.length_append]
theorem zUd (n : Nat) (h : n ≤ 4294967296) : W zBu true [.nil 0, .pv (.int .i64 (n : Int))] [] = some (.view 0 0 none, [.row false 0 0 []]) := by
 rw [zEQ, decide_eq_false (show ¬ (n : Int) < 0 by omega)]
 simp only [cond_false, zDX]
 rw [zA3 (by omega) (by omega)]
 by_cases h0 : (n : Int) - 0 > 0
 ·rw [decide_eq_true h0, decide_eq_true (show (n : Int) - 0 ≤ 4294967296 by omega)]
  have : decide ((0 : Int) < (n : Int) - 0) = true := decide_eq_true h0
  simp
 ·rw [decide_eq_false h0]; rfl
theorem zYC (ls : List (List Int)) (hn : ls.length ≤ 4294967296) (hl : ls.flatten.length ≤ 4294967296) : ∀ (k i s : Nat), i + k = ls.length → s + (ls.drop i).flatten.length = ls.flatten.length →
 zAa (ls.map zAs) (s : Int) (ls.map zAs) (ls.length : Int) (i : Int) = zAK (ls.map zAs) (ls.length : Int) 0 []
 | 0, i, s, h, hs => by
  rw [zBj, show i = ls.length by omega]
  simp only [zCt, cond_false, zUd s (by omega), Option.bind_some, List.length_map]
  rfl
 | k + 1, i, s, h, hs => by
  have hi : i < ls.length := by omega
  have hc := zM8 ls i hi
  rw [zBj]
  simp only [zAZ hi, zAM, cond_true, Int.toNat_natCast, List.getElem?_map, List.getElem?_eq_getElem hi, Option.map_some, Option.bind_some, zDY, List.length_map]
  rw [show IntKind.wrap .i64 ((s : Int) + (ls[i].length : Int)) = ((s + ls[i].length : Nat) : Int) by rw [zA3 (by omega) (by omega)]; omega, decide_eq_false (by omega), zP (by omega)]
  exact zYC ls hn hl k (i + 1) (s + ls[i].length) (by omega) (by omega)
theorem zYD (ls : List (List Int)) (hn : ls.length ≤ 4294967296) : ∀ (k i : Nat) (acc : List Int), i + k = ls.length → acc.length + (ls.drop i).flatten.length ≤ 4294967296 →
 zAK (ls.map zAs) (ls.length : Int) (i : Int) (acc.map intp) = some (zAs (acc ++ (ls.drop i).flatten))
 | 0, i, acc, h, hl => by
  rw [zBk, show i = ls.length by omega]
  simp
 | k + 1, i, acc, h, hl => by
  have hi : i < ls.length := by omega
  have hc := zM8 ls i hi
  rw [zBk]
  simp only [zAZ hi, zAM, cond_true, Int.toNat_natCast, List.getElem?_map, List.getElem?_eq_getElem hi, Option.map_some, Option.bind_some, zDY, List.length_map, Bool.true_and, decide_eq_true (show acc.length + ls[i].length ≤ 4294967296 by omega)]
  rw [zP (by omega)]
  have := zYD ls hn k (i + 1) (acc ++ ls[i]) (by omega) (by simp only [List.length_append]; omega)
  rw [List.map_append] at this
  rw [this, List.drop_eq_getElem_cons hi, List.flatten_cons, List.append_assoc]
theorem zTU (ls : List (List Int)) (hn : ls.length ≤ 4294967296) (hl : ls.flatten.length ≤ 4294967296) : wc W zBa [.slice 0 (ls.map zAs)] = some (zAs ls.flatten) := by
 rw [zFS, List.length_map]
 refine (zYC ls hn hl ls.length 0 0 (by omega) (by simp)).trans ?_
 have := zYD ls hn ls.length 0 [] (by omega) (by simpa using hl)
 simpa using this
theorem zUe (n : Nat) (h : n ≤ 4294967296) : W zAi true [.nil 3, .pv (.int .i64 (n : Int))] [] = some (.view 0 0 none, [.row false 0 3 []]) := by
 rw [zCa, decide_eq_false (show ¬ (n : Int) < 0 by omega)]
 simp only [cond_false, zCK]
 rw [zA3 (by omega) (by omega)]
 by_cases h0 : (n : Int) - 0 > 0
 ·rw [decide_eq_true h0, decide_eq_true (show (n : Int) - 0 ≤ 4294967296 by omega)]
  have : decide ((0 : Int) < (n : Int) - 0) = true := decide_eq_true h0
  simp
 ·rw [decide_eq_false h0]; rfl
theorem zYE (ls : List (List Val)) (hn : ls.length ≤ 4294967296) (hl : ls.flatten.length ≤ 4294967296) : ∀ (k i s : Nat), i + k = ls.length → s + (ls.drop i).flatten.length = ls.flatten.length →
 zV (ls.map rowp) (s : Int) (ls.map rowp) (ls.length : Int) (i : Int) = zN (ls.map rowp) (ls.length : Int) 0 []
 | 0, i, s, h, hs => by
  rw [zAq, show i = ls.length by omega]
  simp only [zCt, cond_false, zUe s (by omega), Option.bind_some, List.length_map]
  rfl
 | k + 1, i, s, h, hs => by
  have hi : i < ls.length := by omega
  have hc := zM8 ls i hi
  rw [zAq]
  simp only [zAZ hi, zAM, cond_true, Int.toNat_natCast, List.getElem?_map, List.getElem?_eq_getElem hi, Option.map_some, Option.bind_some, zGH, List.length_map]
  rw [show IntKind.wrap .i64 ((s : Int) + (ls[i].length : Int)) = ((s + ls[i].length : Nat) : Int) by rw [zA3 (by omega) (by omega)]; omega, decide_eq_false (by omega), zP (by omega)]
  exact zYE ls hn hl k (i + 1) (s + ls[i].length) (by omega) (by omega)
theorem zYF (ls : List (List Val)) (hn : ls.length ≤ 4294967296) : ∀ (k i : Nat) (acc : List Val), i + k = ls.length → acc.length + (ls.drop i).flatten.length ≤ 4294967296 →
 zN (ls.map rowp) (ls.length : Int) (i : Int) (acc.map Val.pv) = some (rowp (acc ++ (ls.drop i).flatten))
 | 0, i, acc, h, hl => by
  rw [zAr, show i = ls.length by omega]
  simp
 | k + 1, i, acc, h, hl => by
  have hi : i < ls.length := by omega
  have hc := zM8 ls i hi
  rw [zAr]
  simp only [zAZ hi, zAM, cond_true, Int.toNat_natCast, List.getElem?_map, List.getElem?_eq_getElem hi, Option.map_some, Option.bind_some, zGH, List.length_map, Bool.true_and, decide_eq_true (show acc.length + ls[i].length ≤ 4294967296 by omega)]
  rw [zP (by omega)]
  have := zYF ls hn k (i + 1) (acc ++ ls[i]) (by omega) (by simp only [List.length_append]; omega)
  rw [List.map_append] at this
  rw [this, List.drop_eq_getElem_cons hi, List.flatten_cons, List.append_assoc]
theorem zTV (ls : List (List Val)) (hn : ls.length ≤ 4294967296) (hl : ls.flatten.length ≤ 4294967296) : wc W zA5 [.slice 0 (ls.map rowp)] = some (rowp ls.flatten) := by
 rw [zDD, List.length_map]
 refine (zYE ls hn hl ls.length 0 0 (by omega) (by simp)).trans ?_
 have := zYF ls hn ls.length 0 [] (by omega) (by simpa using hl)
 simpa using this
def zAz (r s : List (List Val)) : List (List Val) := r.flatMap fun x => s.map fun y => x ++ y
theorem zVX (C D E F : List PV) (x : List Val) (A : List PV) (n i : Int) (s : List (List Val)) (hx : x.length ≤ 100) (hs : ∀ y ∈ s, y.length ≤ 100) (hsn : s.length ≤ 5000) (X Y : List PV) : ∀ (k j : Nat) (acc : List (List Val)), j + k = s.length → acc.length + k ≤ 4294967295 →
 zD9 C D (x.map Val.pv) A n i (s.map rowp) (s.length : Int) (j : Int) X Y E (acc.map rowp) = zCj C D A n (IntKind.wrap .i64 (i + 1)) X Y E ((acc ++ (s.drop j).map fun y => x ++ y).map rowp)
 | 0, j, acc, h, hl => by
  rw [zF4, show j = s.length by omega]
  simp
 | k + 1, j, acc, h, hl => by
  have hj : j < s.length := by omega
  have hy := hs _ (List.getElem_mem hj)
  rw [zF4]
  have hc := zTV [x, s[j]] (by simp) (by simp; omega)
  simp only [List.map_cons, List.map_nil, List.flatten_cons, List.flatten_nil, List.append_nil] at hc
  simp only [zAZ hj, zAM, cond_true, Int.toNat_natCast, List.getElem?_map, List.getElem?_eq_getElem hj, Option.map_some, Option.bind_some, zGH, zR, hc, List.length_map, Bool.true_and, decide_eq_true (show acc.length + 1 ≤ 4294967296 by omega)]
  rw [zP (by omega)]
  have := zVX C D E F x A n i s hx hs hsn X Y k (j + 1) (acc ++ [x ++ s[j]]) (by omega) (by simp; omega)
  simp only [List.map_append, List.map_cons, List.map_nil] at this
  simp only [rowp, List.map_append] at this ⊢
  rw [this, List.drop_eq_getElem_cons hj]
  simp only [List.map_cons, List.append_assoc, List.cons_append, List.nil_append, rowp, List.map_append]
theorem zVY (C D E F : List PV) (r s : List (List Val)) (hr : ∀ x ∈ r, x.length ≤ 100) (hs : ∀ y ∈ s, y.length ≤ 100) (hl : r.length ≤ 5000) (hsn : s.length ≤ 5000) (X Y : List PV) : ∀ (k i : Nat) (acc : List (List Val)), i + k = r.length → acc.length + (zAz (r.drop i) s).length ≤ 4294967295 →
 zCj C (s.map rowp) (r.map rowp) (r.length : Int) (i : Int) X Y E (acc.map rowp) = some (.tup [.agg [.slice 0 E, tabp (acc ++ zAz (r.drop i) s)], .bool true])
 | 0, i, acc, h, hb => by
  rw [zF3, show i = r.length by omega]
  simp [zAz]
 | k + 1, i, acc, h, hb => by
  have hi : i < r.length := by omega
  have hp : zAz (r.drop i) s = (s.map fun y => r[i] ++ y) ++ zAz (r.drop (i + 1)) s := by
   rw [List.drop_eq_getElem_cons hi]; rfl
  rw [hp] at hb ⊢
  simp only [List.length_append, List.length_map] at hb
  rw [zF3]
  simp only [zAZ hi, zAM, cond_true, Int.toNat_natCast, List.getElem?_map, List.getElem?_eq_getElem hi, Option.map_some, Option.bind_some, zGH, List.length_map]
  have h3 := zVX C (s.map rowp) E F r[i] (r.map rowp) (r.length : Int) (i : Int) s (hr _ (List.getElem_mem hi)) hs hsn X Y s.length 0 acc (by omega) (by omega)
  refine h3.trans ?_
  rw [zP (by omega), List.drop_zero]
  have := zVY C D E F r s hr hs hl hsn X Y k (i + 1) (acc ++ s.map fun y => r[i] ++ y) (by omega) (by simp only [List.length_append, List.length_map]; omega)
  rw [this, List.append_assoc]
def zQH (c : List Int) (r : List (List Val)) (d : List Int) (s : List (List Val)) : Option (List Int × List (List Val)) :=
 bif mayB c r && mayB d s && mayB (c ++ d) [] && decide (r.length * s.length ≤ 5000) then some (c ++ d, zAz r s) else none
theorem zIE (r s : List (List Val)) : (zAz r s).length = r.length * s.length := by
 unfold zAz
 induction r with
 | nil => simp
 | cons a r ih => rw [List.flatMap_cons, List.length_append, ih, List.length_map, List.length_cons, Nat.succ_mul]; omega
theorem zWL (c : List Int) (r : List (List Val)) (d : List Int) (s : List (List Val)) (hcd : c.length + d.length ≤ 4294967296) (hr : r.length ≤ 9223372036854775807) (hs : s.length ≤ 9223372036854775807)
 (hrl : ∀ x ∈ r, x.length ≤ 9223372036854775807) (hsl : ∀ x ∈ s, x.length ≤ 9223372036854775807) : wc W zHI [bagp c r, bagp d s] = some (bagR (zQH c r d s)) := by
 have h := zPB (c.map intp) (r.map rowp) (d.map intp) (s.map rowp)
 rw [zA, zA, zAN, zAN, zAX, zAX] at h
 have hc := zTU [c, d] (by simp) (by simpa using hcd)
 simp only [List.map_cons, List.map_nil, List.flatten_cons, List.flatten_nil, List.append_nil] at hc
 have e0 : PV.agg [zAs (c ++ d), PV.slice 0 []] = bagp (c ++ d) [] := rfl
 rw [h, hc]
 simp only [Option.bind_some, zDY, zA, e0, zGI c r (by omega) hr hrl, zGI d s (by omega) hs hsl, zGI (c ++ d) [] (by simp; omega) (by simp) (by simp), c_b_mk, List.length_map]
 unfold zQH
 cases h1 : mayB c r with
 | false => rfl
 | true =>
  cases h2 : mayB d s with
  | false => rfl
  | true =>
   cases h3 : mayB (c ++ d) [] with
   | false => rfl
   | true =>
    obtain ⟨a1, a2, a3⟩ := zCl h1
    obtain ⟨b1, b2, b3⟩ := zCl h2
    have hm : r.length * s.length ≤ 5000 * 5000 := Nat.mul_le_mul a2 b2
    have hw : IntKind.wrap .i64 ((r.length : Int) * (s.length : Int)) = ((r.length * s.length : Nat) : Int) := by
     rw [← Int.natCast_mul, zA3 (by omega) (by omega)]
    rw [hw]
    by_cases h4 : r.length * s.length ≤ 5000
    ·rw [decide_eq_true h4, decide_eq_false (show ¬ ((r.length * s.length : Nat) : Int) > 5000 by omega)]
     simp only [Bool.not_true, cond_false, Bool.and_self, cond_true, zJ0, List.length_map]
     have := zVY (d.map intp) [] ((c ++ d).map intp) [] r s (fun x hx => by have := (a3 x hx).1; omega) (fun x hx => by have := (b3 x hx).1; omega) a2 b2 [] [] r.length 0 [] (by omega) (by rw [List.drop_zero, zIE]; simp; omega)
     simp only [List.map_nil, List.drop_zero, List.nil_append] at this
     exact this
    ·rw [decide_eq_false h4, decide_eq_true (show ((r.length * s.length : Nat) : Int) > 5000 by omega)]
     rfl
end Go.Cf

namespace Go.Cf
open Go Go.Ab
set_option linter.unusedVariables false
set_option linter.unusedSimpArgs false
theorem zYG (c cols : List Int) (row : List Val) (hl : row.length = c.length) (hin : ∀ x ∈ cols, inC c x = true) (hn : cols.length ≤ 100) (A : List PV) (n i : Int) (X Y Z : List PV) (out : List (List Val)) (ho : out.length ≤ 4294967295) : ∀ (k j : Nat) (acc : List Val), j + k = cols.length → acc.length = j →
 zE5 (row.map Val.pv) A n i (cols.length : Int) (j : Int) ((atC c cols).map intp) X Y Z (out.map rowp) (acc.map Val.pv) =
  zDP A n (IntKind.wrap .i64 (i + 1)) ((atC c cols).map intp) X Y Z ((out ++ [acc ++ (cols.drop j).map (zCc c row)]).map rowp)
 | 0, j, acc, h, ha => by
  rw [zGC, show j = cols.length by omega]
  simp only [zCt, cond_false, List.length_map, Bool.true_and, decide_eq_true (show out.length + 1 ≤ 4294967296 by omega), cond_true, List.drop_length, List.map_nil, List.append_nil, List.map_append, List.map_cons]
  rfl
 | k + 1, j, acc, h, ha => by
  have hj : j < cols.length := by omega
  have hj2 : j < (atC c cols).length := by unfold atC; rw [List.length_map]; exact hj
  obtain ⟨h1, h2⟩ := zGc (hin _ (List.getElem_mem hj)) hl
  have he : (atC c cols)[j] = idxI c (fun y => cols[j] == y) := by simp only [atC, List.getElem_map]
  have hlen : ((atC c cols).map intp).length = cols.length := by unfold atC; rw [List.length_map, List.length_map]
  rw [zGC, hlen]
  simp only [zAZ hj, zAM, Bool.and_self, cond_true, Int.toNat_natCast, Nat.zero_add, List.getElem?_map, List.getElem?_eq_getElem hj2, Option.map_some, Option.bind_some, zGq, he, decide_eq_true h2, h1, Val.c_mk, Val.fold, List.length_map, Bool.true_and, decide_eq_true (show acc.length + 1 ≤ 4294967296 by omega)]
  rw [zP (by omega)]
  have := zYG c cols row hl hin hn A n i X Y Z out ho k (j + 1) (acc ++ [zCc c row cols[j]]) (by omega) (by rw [List.length_append, List.length_singleton]; omega)
  rw [List.map_append] at this
  rw [List.append_assoc, List.singleton_append] at this
  rw [List.drop_eq_getElem_cons hj, List.map_cons]
  exact this
theorem zYH (c cols : List Int) (r : List (List Val)) (hl : ∀ x ∈ r, x.length = c.length) (hin : ∀ x ∈ cols, inC c x = true) (hn : cols.length ≤ 100) (hr : r.length ≤ 4294967295) (X Y : List PV) : ∀ (k i : Nat) (acc : List (List Val)), i + k = r.length → acc.length = i →
 zDP (r.map rowp) (r.length : Int) (i : Int) ((atC c cols).map intp) X Y (cols.map intp) (acc.map rowp) = some (.tup [bagp cols (acc ++ (r.drop i).map (zBR c cols)), .bool true])
 | 0, i, acc, h, ha => by
  rw [zGB, show i = r.length by omega]
  simp [zCt]
 | k + 1, i, acc, h, ha => by
  have hi : i < r.length := by omega
  rw [zGB]
  have hlen : ((atC c cols).map intp).length = cols.length := by unfold atC; rw [List.length_map, List.length_map]
  simp only [zAZ hi, zAM, cond_true, Int.toNat_natCast, List.getElem?_map, List.getElem?_eq_getElem hi, Option.map_some, Option.bind_some, zGH, hlen]
  have h4 := zYG c cols r[i] (hl _ (List.getElem_mem hi)) hin hn (r.map rowp) (r.length : Int) (i : Int) X Y (cols.map intp) acc (by omega) cols.length 0 [] (by omega) rfl
  refine h4.trans ?_
  rw [zP (by omega), List.drop_zero, List.nil_append]
  have := zYH c cols r hl hin hn hr X Y k (i + 1) (acc ++ [cols.map (zCc c r[i])]) (by omega) (by rw [List.length_append, List.length_singleton]; omega)
  rw [this, List.drop_eq_getElem_cons hi, List.map_cons, List.append_assoc]
  rfl
theorem zYI (c cols : List Int) (r : List (List Val)) (hl : ∀ x ∈ r, x.length = c.length) (hc : c.length ≤ 100) (hn : cols.length ≤ 100) (hr : r.length ≤ 4294967295) : ∀ (k i : Nat), i + k = cols.length → (∀ x ∈ cols.take i, inC c x = true) →
 zE4 (cols.map intp) (c.map intp) (r.map rowp) (cols.map intp) (cols.length : Int) (i : Int) ((atC c (cols.take i)).map intp) =
  bif (cols.drop i).all (inC c) then some (.tup [bagp cols (r.map (zBR c cols)), .bool true]) else some (.tup [bagp [] [], .bool false])
 | 0, i, h, hin => by
  rw [zGA, show i = cols.length by omega]
  have hcl := zCq (cols.map intp) (by rw [List.length_map]; omega)
  rw [zA] at hcl
  rw [show i = cols.length by omega, List.take_length] at hin
  simp only [zCt, cond_false, List.drop_length, List.all_nil, cond_true, List.take_length, zA, hcl, Option.bind_some, zDY, List.length_map]
  have := zYH c cols r hl hin hn hr [] [] r.length 0 [] (by omega) rfl
  simpa using this
 | k + 1, i, h, hin => by
  have hi : i < cols.length := by omega
  rw [zGA, List.drop_eq_getElem_cons hi, List.all_cons]
  simp only [zAZ hi, zAM, cond_true, Int.toNat_natCast, List.getElem?_map, List.getElem?_eq_getElem hi, Option.map_some, Option.bind_some, zGq, zA, zPP c cols[i] (by omega), c_i64_mk, zIp]
  cases hx : inC c cols[i] with
  | false => rfl
  | true =>
   have ht : (cols.take i).length = i := by rw [List.length_take]; omega
   have hlen : ((atC c (cols.take i)).map intp).length = i := by unfold atC; rw [List.length_map, List.length_map, ht]
   simp only [Bool.not_true, cond_false, Bool.true_and, hlen, decide_eq_true (show i + 1 ≤ 4294967296 by omega), cond_true]
   rw [zP (by omega)]
   have := zYI c cols r hl hc hn hr k (i + 1) (by omega) (fun x hx' => by
    rw [List.take_succ_eq_append_getElem hi] at hx'
    rcases List.mem_append.1 hx' with h | h
    ·exact hin x h
    ·rw [List.mem_singleton] at h; rw [h]; exact hx)
   rw [List.take_succ_eq_append_getElem hi] at this
   unfold atC at this ⊢
   rw [List.map_append, List.map_append] at this
   exact this
def zUf (c : List Int) (r : List (List Val)) (cols : List Int) : Option (List Int × List (List Val)) := bif mayB c r && mayB cols [] && cols.all (inC c) then some (cols, r.map (zBR c cols)) else none
theorem zYJ (c : List Int) (r : List (List Val)) (cols : List Int) (hc : c.length ≤ 9223372036854775807) (hr : r.length ≤ 9223372036854775807) (hl : ∀ x ∈ r, x.length ≤ 9223372036854775807) (hn : cols.length ≤ 9223372036854775807) :
 wc W zIc [bagp c r, zAs cols] = some (bagR (zUf c r cols)) := by
 have h := zRI (c.map intp) (r.map rowp) (cols.map intp)
 rw [zA, zAN, zAX, zA] at h
 have e0 : PV.agg [zAs cols, PV.slice 0 []] = bagp cols [] := rfl
 rw [h]
 simp only [e0, zGI c r hc hr hl, zGI cols [] hn (by simp) (by simp), Option.bind_some, c_b_mk]
 unfold zUf
 cases h1 : mayB c r with
 | false => rfl
 | true =>
  cases h2 : mayB cols [] with
  | false => rfl
  | true =>
   obtain ⟨a1, a2, a3⟩ := zCl h1
   obtain ⟨b1, _, _⟩ := zCl h2
   simp only [Bool.not_true, cond_false, Bool.and_self, Bool.true_and, zKn, List.length_map]
   have := zYI c cols r (fun x hx => (a3 x hx).1) (by omega) (by omega) (by omega) cols.length 0 (by omega) (by simp)
   rw [List.take_zero, List.drop_zero] at this
   refine this.trans ?_
   cases cols.all (inC c) <;> rfl
end Go.Cf

namespace Go.Cf
open Go Go.Ab
set_option linter.unusedVariables false
set_option linter.unusedSimpArgs false
mutual
def Ex.lens : Ex → Prop
 | .mk _ _ _ l => l.length ≤ 9223372036854775807 ∧ Ex.lensL l
def Ex.lensL : List Ex → Prop
 | [] => True
 | e :: r => e.lens ∧ Ex.lensL r
end
theorem Ex.lensL_mem : ∀ {l : List Ex}, Ex.lensL l → ∀ e ∈ l, e.lens
 | x :: r, h, e, he => by
  rcases List.mem_cons.1 he with rfl | he
  ·exact h.1
  ·exact Ex.lensL_mem h.2 e he
theorem Ex.lens_l {e : Ex} (h : e.lens) : e.l.length ≤ 9223372036854775807 ∧ ∀ x ∈ e.l, x.lens := by cases e; exact ⟨h.1, Ex.lensL_mem h.2⟩
theorem zTW : ∀ (k : Nat) (e : Ex), e.sz ≤ k → e.lens → ∀ m : Nat, m ≤ 1000000 → wc W zBT [e.pv, .int .i64 (m : Int)] = some (.int .i64 ((min e.sz (m + 1) : Nat) : Int))
 | 0, e, h, _, _, _ => by have := e.sz_pos; omega
 | k + 1, e, h, he, m, hm => by
  have hh := zGh e.op e.col e.v.K e.v.N (e.l.map Ex.pv) (m : Int)
  rw [Ex.fold] at hh
  rw [hh]
  have hsz : e.sz = Ex.szL e.l + 1 := by cases e; rfl
  obtain ⟨hl, hx⟩ := Ex.lens_l he
  have loop : ∀ (q i n : Nat), i + q = e.l.length → n ≤ m + 1 →
   zAy (m : Int) e.op e.col e.v.K e.v.N (e.l.map Ex.pv) (n : Int) (i : Int) = some (.int .i64 ((min (n + Ex.szL (e.l.drop i)) (m + 1) : Nat) : Int)) := fun q => by
   induction q with
   | zero =>
    intro i n hi hn
    rw [zCP, show i = e.l.length by omega, List.length_map]
    simp only [zCt, cond_false, List.drop_length, Ex.szL, Nat.add_zero, Nat.min_eq_left hn]
   | succ q ih =>
    intro i n hi hn
    have hi' : i < e.l.length := by omega
    rw [zCP, List.length_map]
    simp only [zAZ hi', cond_true]
    by_cases hnm : n ≤ m
    ·have hm' := Ex.sz_mem (List.getElem_mem hi')
     rw [decide_eq_true (show (n : Int) ≤ (m : Int) by omega), cond_true, zEf]
     simp only [zAM, cond_true, Int.toNat_natCast, List.getElem?_map, List.getElem?_eq_getElem hi', Option.map_some, Option.bind_some, Ex.c_mk, Ex.fold]
     rw [zA3 (by omega) (by omega), show ((m : Int) - (n : Int)) = ((m - n : Nat) : Int) by omega, zTW k e.l[i] (by omega) (hx _ (List.getElem_mem hi')) (m - n) (by omega)]
     simp only [Option.bind_some, c_i64_mk]
     rw [show ((n : Int) + ((min e.l[i].sz (m - n + 1) : Nat) : Int)) = ((n + min e.l[i].sz (m - n + 1) : Nat) : Int) by omega, zU7 (by omega), zP (by omega), ih (i + 1) (n + min e.l[i].sz (m - n + 1)) (by omega) (by omega), Ex.sz_drop e.l i hi']
     congr 3
     omega
    ·rw [decide_eq_false (show ¬ (n : Int) ≤ (m : Int) by omega), cond_false]
     congr 3
     omega
  have := loop e.l.length 0 1 (by omega) (by omega)
  rw [List.drop_zero] at this
  rw [show (1 : Int) = ((1 : Nat) : Int) from rfl, show (0 : Int) = ((0 : Nat) : Int) from rfl, this]
  congr 3
  omega
theorem zYK (e : Ex) (he : e.lens) : wc W zCW [e.pv, .int .i64 60] = some (.bool (decide (e.sz ≤ 60))) := by
 have h := zHX e.op e.col e.v.K e.v.N (e.l.map Ex.pv) 60
 rw [Ex.fold] at h
 rw [h, show (60 : Int) = ((60 : Nat) : Int) from rfl, zTW e.sz e (Nat.le_refl _) he 60 (by omega)]
 simp only [Option.bind_some, c_i64_mk]
 congr 3
 first | (rw [decide_eq_decide]; omega) | exact propext (by omega)
def exsp (l : List Ex) : PV := .slice 6 (l.map Ex.pv)
theorem zGJ (l : List Ex) : PV.slice 6 (l.map Ex.pv) = exsp l := rfl
theorem zKx (c0 : List Int) (g : Nat) (fs cs : List PV) (r : List (List Val)) (f : List Val → Bool) (hr : r.length ≤ 4294967295) (hl : ∀ x ∈ r, x.length ≤ 4294967296) (hf : ∀ x ∈ r, wc W g (fs ++ [rowp x] ++ cs) = some (.bool (f x))) :
 ∀ (k i : Nat) (a b : List PV) (acc : List (List Val)), i + k = r.length → acc.length ≤ i →
 zDQ (.fn g fs cs) (r.map rowp) (r.length : Int) (i : Int) a b (c0.map intp) (acc.map rowp) = some (bagp c0 (acc ++ (r.drop i).filter f))
 | 0, i, a, b, acc, hi, hacc => by
  rw [zGF, show i = r.length by omega]
  simp [zCt]
 | k + 1, i, a, b, acc, hi, hacc => by
  have hi' : i < r.length := by omega
  rw [zGF, List.drop_eq_getElem_cons hi', List.filter_cons]
  simp only [zAZ hi', zAM, cond_true, Int.toNat_natCast, List.getElem?_map, List.getElem?_eq_getElem hi', Option.map_some, Option.bind_some, zGH, asFn_mk, zR, hf _ (List.getElem_mem hi'), c_b_mk]
  have hcl := zDO (r[i].map Val.pv) (by rw [List.length_map]; exact hl _ (List.getElem_mem hi'))
  rw [zR] at hcl
  rw [zP (by omega)]
  cases hfx : f r[i] with
  | false =>
   simp only [cond_false, Bool.false_eq_true, if_false]
   exact zKx c0 g fs cs r f hr hl hf k (i + 1) a b acc (by omega) (by omega)
  | true =>
   simp only [cond_true, hcl, Option.bind_some, zGH, zR, List.length_map, Bool.true_and, decide_eq_true (show acc.length + 1 ≤ 4294967296 by omega), if_true]
   have := zKx c0 g fs cs r f hr hl hf k (i + 1) a b (acc ++ [r[i]]) (by omega) (by rw [List.length_append, List.length_singleton]; omega)
   rw [List.map_append, List.append_assoc] at this
   exact this
theorem zYL (c : List Int) (r : List (List Val)) (g : Nat) (fs cs : List PV) (f : List Val → Bool) (hc : c.length ≤ 4294967296) (hr : r.length ≤ 4294967295) (hl : ∀ x ∈ r, x.length ≤ 4294967296) (hf : ∀ x ∈ r, wc W g (fs ++ [rowp x] ++ cs) = some (.bool (f x))) :
 wc W zIe [bagp c r, .fn g fs cs] = some (bagp c (r.filter f)) := by
 have h := zRN (c.map intp) (r.map rowp) (.fn g fs cs)
 rw [zA, zAN, zAX] at h
 have hcl := zCq (c.map intp) (by rw [List.length_map]; exact hc)
 rw [zA] at hcl
 rw [h, hcl, List.length_map]
 simp only [Option.bind_some, zDY]
 have := zKx c g fs cs r f hr hl hf r.length 0 [] [] [] (by omega) (by simp)
 simpa using this
theorem zWM (l : List Ex) (g : Nat) (fs cs : List PV) (f : Ex → Bool) (hl : l.length ≤ 9223372036854775807) (hf : ∀ x ∈ l, wc W g (fs ++ [x.pv] ++ cs) = some (.bool (f x))) :
 wc W zX [exsp l, .fn g fs cs] = some (.bool (l.any f)) := by
 have h := zBy (l.map Ex.pv) (.fn g fs cs)
 have h2 := zCO (l.map Ex.pv) (.fn g fs cs)
 rw [zGJ] at h h2
 have h3 : wc W zAI [exsp l, .fn g fs cs] = some (.int .i64 (idxI l f)) := by
  rw [h2, List.length_map]
  refine zGb (fun i => zO (l.map Ex.pv) (.fn g fs cs) l.length i) l f (fun n => some (.int .i64 n)) (fun i hi => ?_) ?_
  ·rw [zA2]
   simp only [zAZ hi, zAM, cond_true, Int.toNat_natCast, List.getElem?_map, List.getElem?_eq_getElem hi, Option.map_some, Option.bind_some, Ex.c_mk, asFn_mk, Ex.fold]
   rw [hf _ (List.getElem_mem hi), zA3 (by omega) (by omega)]
   simp only [Option.bind_some, c_b_mk]
  ·rw [zA2]; simp
 rw [h, h3]
 simp [← zGa]
def zLL (l : List Ex) (c : List Int) (row : List Val) : Bool := l.all fun e => zHY e c row
theorem zUg {α : Type} (l : List α) (f : α → Bool) : (!l.any fun x => !f x) = l.all f := by
 induction l with
 | nil => rfl
 | cons a l ih => simp only [List.any_cons, List.all_cons, Bool.not_or, Bool.not_not, ih]
theorem zVZ (c : List Int) (r : List (List Val)) (l : List Ex) (hc : c.length ≤ 4294967296) (hr : r.length ≤ 4294967295) (hl : ∀ x ∈ r, x.length ≤ 4294967296) (hv : ∀ x ∈ r, ROk x) (hll : l.length ≤ 9223372036854775807) (he : ∀ e ∈ l, e.ok ∧ e.vals) :
 wc W zDC [bagp c r, exsp l] = some (bagp c (r.filter (zLL l c))) := by
 have h := zRJ (c.map intp) (r.map rowp) (l.map Ex.pv)
 rw [zA, zAN, zAX, zGJ] at h
 rw [h, zYL c r zE0 [] [.imm 0 (exsp l) 0, .imm 3 (bagp c r) 0] (zLL l c) hc hr hl ?_]
 ·simp only [Option.bind_some, zIB]
  rfl
 ·intro x hx
  have h1 := zNh (x.map Val.pv) (l.map Ex.pv) (c.map intp) (r.map rowp)
  rw [zA, zAN, zAX, zGJ, zR] at h1
  show wc W zE0 [rowp x, _, _] = _
  rw [h1, zWM l zDI [] [.imm 3 (bagp c r) 0, .imm 0 (rowp x) 0] (fun e => !zHY e c x) hll ?_]
  ·simp only [Option.bind_some, c_b_mk, zUg]
   rfl
  ·intro e hel
   have h2 := zLK e.op e.col e.v.K e.v.N (e.l.map Ex.pv) (c.map intp) (r.map rowp) (x.map Val.pv)
   rw [Ex.fold, zA, zAN, zAX, zR] at h2
   show wc W zDI [e.pv, _, _] = _
   rw [h2, zWJ e c x (he e hel).1 (he e hel).2 (by omega) (hv x hx)]
   rfl
end Go.Cf

namespace Go.Cf
open Go Go.Ab
set_option linter.unusedVariables false
set_option linter.unusedSimpArgs false
theorem zUh (l : List Def) (g : Nat) (fs cs : List PV) (f : Def → Bool) (hl : l.length ≤ 9223372036854775807) (hf : ∀ x ∈ l, wc W g (fs ++ [x.pv] ++ cs) = some (.bool (f x))) :
 wc W zAV [.slice 3 (l.map Def.pv), .fn g fs cs] = some (.int .i64 (idxI l f)) := by
 rw [zCb, List.length_map]
 refine zGb (fun i => zQ (l.map Def.pv) (.fn g fs cs) l.length i) l f (fun n => some (.int .i64 n)) (fun i hi => ?_) ?_
 ·rw [zAc]
  simp only [zAZ hi, zAM, cond_true, Int.toNat_natCast, List.getElem?_map, List.getElem?_eq_getElem hi, Option.map_some, Option.bind_some, Def.c_mk, asFn_mk, Def.fold]
  rw [hf _ (List.getElem_mem hi), zA3 (by omega) (by omega)]
  simp only [Option.bind_some, c_b_mk]
 ·rw [zAc]; simp
theorem zUi (l : List Def) (g : Nat) (fs cs : List PV) (f : Def → Bool) (hl : l.length ≤ 9223372036854775807) (hf : ∀ x ∈ l, wc W g (fs ++ [x.pv] ++ cs) = some (.bool (f x))) :
 wc W zAF [.slice 3 (l.map Def.pv), .fn g fs cs] = some (.bool (l.any f)) := by
 rw [zCJ, zUh l g fs cs f hl hf]
 simp [← zGa]
def catp (T : List Def) : PV := .agg [.slice 3 (T.map Def.pv)]
def zGK (D : List (List (List Val))) : PV := .agg [.slice 0 (D.map tabp)]
@[simp] theorem zAA (T : List Def) : PV.agg [.slice 3 (T.map Def.pv)] = catp T := rfl
@[simp] theorem zA7 (D : List (List (List Val))) : PV.agg [.slice 0 (D.map tabp)] = zGK D := rfl
@[simp] theorem c_catp (T : List Def) {R : Type} (f : List PV → Option R) : zVR (catp T) f = f (T.map Def.pv) := rfl
@[simp] theorem c_datap (D : List (List (List Val))) {R : Type} (f : List PV → Option R) : zVQ (zGK D) f = f (D.map tabp) := rfl
theorem w_in (n a b : Int) : wc W zCh [.int .i64 n, .int .i64 a, .int .i64 b] = some (.bool (decide (a ≤ n) && decide (n ≤ b))) := by
 rw [zSv]
 have : decide (n ≥ a) = decide (a ≤ n) := rfl
 rw [this]
 cases decide (a ≤ n) <;> rfl
def oneD (d : Def) : Bool := (decide (1 ≤ d.Cols) && decide (d.Cols ≤ 4)) && (decide (1 ≤ d.Rows) && decide (d.Rows ≤ 1000000))
theorem zYb (d : Def) : wc W zIg [d.pv] = some (.bool (oneD d)) := by
 have h := zRQ d.Cols d.Rows
 rw [Def.fold] at h
 rw [h]
 simp only [w_in, Option.bind_some, c_b_mk]
 unfold oneD
 by_cases h0 : d.Cols = 0
 ·rw [h0]
  by_cases h1 : d.Rows = 0
  ·rw [h1]; rfl
  ·rw [zER h1]; rfl
 ·rw [zER h0]
  simp only [cond_false, Option.bind_some, c_b_mk, Bool.not_false, cond_true]
  cases (decide (1 ≤ d.Cols) && decide (d.Cols ≤ 4)) <;> simp
def mayC (T : List Def) : Bool := (decide (1 ≤ (T.length : Int)) && decide ((T.length : Int) ≤ 4)) && T.all oneD
theorem zTX (d : Def) : wc W zE1 [d.pv] = some (.bool (!oneD d)) := by
 have h := zNj d.Cols d.Rows
 rw [Def.fold] at h
 rw [h, zYb]; rfl
theorem zLl (T : List Def) (hl : T.length ≤ 9223372036854775807) : wc W zG3 [catp T] = some (.bool (mayC T)) := by
 have h := zRK (T.map Def.pv)
 rw [zAA] at h
 rw [h, w_in, List.length_map]
 simp only [Option.bind_some, c_b_mk]
 rw [zUi T zE1 [] [] (fun d => !oneD d) hl (fun x _ => zTX x)]
 simp only [Option.bind_some, c_b_mk, zIo]
 unfold mayC
 cases (decide (1 ≤ (T.length : Int)) && decide ((T.length : Int) ≤ 4)) <;> rfl
def zNy (r : List Val) (n : Int) : Bool := decide ((r.length : Int) = n) && r.all mayV
theorem zYM (v : Val) : wc W zE2 [v.pv] = some (.bool (!mayV v)) := by
 have h := zNk v.K v.N
 rw [Val.fold] at h
 rw [h, zIA]; rfl
theorem zYc (r : List Val) (n : Int) (hl : r.length ≤ 9223372036854775807) : wc W zIf [rowp r, .int .i64 n] = some (.bool (zNy r n)) := by
 have h := zRO (r.map Val.pv) n
 rw [zR] at h
 rw [h, List.length_map, zM4 r zE2 [] [] (fun v => !mayV v) hl (fun x _ => zYM x)]
 simp only [Option.bind_some, c_b_mk, zIo]
 unfold zNy
 by_cases e : (r.length : Int) = n
 ·rw [zNq e, decide_eq_true e]; simp
 ·rw [zER e, decide_eq_false e]; simp
def zCu (T : List Def) (i : Nat) : Int := (T[i]?.map Def.Cols).getD 0
def zPV (T : List Def) (i : Nat) (t : List (List Val)) : Bool := decide (t.length ≤ 8) && t.all fun r => zNy r (zCu T i)
def fits (T : List Def) (D : List (List (List Val))) : Bool := mayC T && decide (D.length = T.length) && (List.range D.length).all fun i => (D[i]?).all (zPV T i)
theorem zWN (T : List Def) (r : List Val) (i : Nat) (hi : i < T.length) (hl : r.length ≤ 9223372036854775807) :
 W zAl false [.pv (rowp r), .pv (.imm 2 (catp T) 0), .own 0 0] [.var false 0 (.pv (.int .i64 (i : Int)))] = some (.pv (.bool (!zNy r (zCu T i))), [.var false 0 (.pv (.int .i64 (i : Int)))]) := by
 have h := zHv (r.map Val.pv) (T.map Def.pv) (i : Int)
 rw [zR, zAA] at h
 rw [h]
 simp only [zAM, cond_true, Int.toNat_natCast, List.getElem?_map, List.getElem?_eq_getElem hi, Option.map_some, Option.bind_some, Def.load0, c_i64_mk, zYc _ _ hl, c_b_mk, zCu, Option.getD_some]
theorem zUj (T : List Def) (t : List (List Val)) (i : Nat) (hi : i < T.length) (ht : t.length ≤ 9223372036854775807) (hl : ∀ r ∈ t, r.length ≤ 9223372036854775807) :
 W zT false [.pv (tabp t), .fnv zAl [] [.pv (.imm 2 (catp T) 0), .own 0 0]] [.var false 0 (.pv (.int .i64 (i : Int)))] =
  some (.pv (.bool (!t.all fun r => zNy r (zCu T i))), [.var false 0 (.pv (.int .i64 (i : Int)))]) := by
 have h := zBP (t.map rowp) (T.map Def.pv) (i : Int)
 have h2 := zB4 (t.map rowp) (T.map Def.pv) (i : Int)
 rw [zAN, zAA] at h h2
 rw [h, h2, List.length_map]
 rw [zGb (fun n => zJ (t.map rowp) (T.map Def.pv) t.length n (i : Int)) t (fun r => !zNy r (zCu T i)) (fun n => some (.pv (.int .i64 n), [.var false 0 (.pv (.int .i64 (i : Int)))])) ?_ ?_]
 ·simp only [Option.bind_some, k_5b106d_mk, c_i64_mk, zGa]
  rw [← zIo t, Bool.not_not]
 ·intro j hj
  rw [zAL]
  simp only [zAZ hj, zAM, cond_true, Int.toNat_natCast, List.getElem?_map, List.getElem?_eq_getElem hj, Option.map_some, Option.bind_some, zGH, zR, zAA, zWN T _ i hi (hl _ (List.getElem_mem hj)), k_5b106d_mk, c_b_mk]
  rw [zA3 (by omega) (by omega)]
 ·rw [zAL]; simp
structure DOk (D : List (List (List Val))) : Prop where
 len : D.length ≤ 9223372036854775807
 tab : ∀ t ∈ D, t.length ≤ 9223372036854775807
 row : ∀ t ∈ D, ∀ r ∈ t, r.length ≤ 9223372036854775807
theorem zV0 (T : List Def) (D : List (List (List Val))) (hT : T.length ≤ 9223372036854775807) (hD : DOk D) : wc W zFH [catp T, zGK D] = some (.bool (fits T D)) := by
 have h := zPA (T.map Def.pv) (D.map tabp)
 rw [zAA, zA7] at h
 rw [h, zLl T hT]
 simp only [Option.bind_some, c_b_mk, List.length_map]
 unfold fits
 cases mayC T with
 | false => rfl
 | true =>
  simp only [Bool.not_true, cond_false, Bool.true_and]
  by_cases hl : D.length = T.length
  ·rw [zTF (by rw [hl]), decide_eq_true hl, cond_false, zJZ, Bool.true_and, List.length_map]
   rw [zJm (fun i => zD8 (T.map Def.pv) (D.map tabp) D.length i) D.length (fun i => (D[i]?).all (zPV T i)) (some (.bool false)) (some (.bool true)) ?_ ?_]
   ·cases (List.range D.length).all fun i => (D[i]?).all (zPV T i) <;> rfl
   ·intro i hi
    have hiT : i < T.length := by omega
    have hm := List.getElem_mem hi
    have := hD.len
    rw [zF2]
    simp only [zAZ hi, zAM, cond_true, Int.toNat_natCast, List.getElem?_map, List.getElem?_eq_getElem hi, Option.map_some, Option.bind_some, zKr, List.length_map, Option.all_some, zAN, zAA, zUj T D[i] i hiT (hD.tab _ hm) (hD.row _ hm), k_5b106d_mk, c_b_mk]
    rw [zA3 (by omega) (by omega)]
    unfold zPV
    by_cases h8 : D[i].length ≤ 8
    ·rw [decide_eq_true h8, decide_eq_false (show ¬ ((D[i].length : Nat) : Int) > 8 by omega)]
     cases D[i].all fun r => zNy r (zCu T i) <;> rfl
    ·rw [decide_eq_false h8, decide_eq_true (show ((D[i].length : Nat) : Int) > 8 by omega)]
     rfl
   ·rw [zF2]; simp
  ·rw [zNp (by omega), decide_eq_false hl]; rfl
def colI (occ col : Int) : Int := bif (decide (0 ≤ occ) && decide (occ ≤ 3)) && (decide (0 ≤ col) && decide (col ≤ 3)) then 4 * occ + col else -1
theorem zWO (o c : Int) : wc W zEo [.int .i64 o, .int .i64 c] = some (.int .i64 (colI o c)) := by
 rw [zRP]
 simp only [w_in, Option.bind_some, c_b_mk, colI]
 by_cases h : 0 ≤ o ∧ o ≤ 3
 ·rw [decide_eq_true h.1, decide_eq_true h.2]
  by_cases h2 : 0 ≤ c ∧ c ≤ 3
  ·rw [decide_eq_true h2.1, decide_eq_true h2.2]
   simp only [Bool.and_self, Bool.not_true, cond_false, cond_true, zKq]
   rw [zA3 (n := 4 * o) (by omega) (by omega), zA3 (by omega) (by omega)]
  ·have : (decide (0 ≤ c) && decide (c ≤ 3)) = false := by rw [← Bool.decide_and]; exact decide_eq_false h2
   rw [this]; rfl
 ·have : (decide (0 ≤ o) && decide (o ≤ 3)) = false := by rw [← Bool.decide_and]; exact decide_eq_false h
  rw [this]; rfl
def zQI (id : Int) : PV := bif decide (0 ≤ id) && decide (id ≤ 15) then .tup [.int .i64 (id / 4), .int .i64 (id % 4), .bool true] else .tup [.int .i64 0, .int .i64 0, .bool false]
theorem div4 {n : Int} (h : 0 ≤ n) (h2 : n ≤ 15) : IntKind.wrap .i64 (Int.tdiv n 4) = n / 4 ∧ Int.tmod n 4 = n % 4 := by
 rw [Int.tdiv_eq_ediv_of_nonneg h, Int.tmod_eq_emod_of_nonneg h, zA3 (by omega) (by omega)]
 exact ⟨rfl, rfl⟩
theorem zWP (n : Int) : wc W zFw [.int .i64 n] = some (zQI n) := by
 rw [zNm, w_in]
 simp only [Option.bind_some, c_b_mk, zQI]
 by_cases h : 0 ≤ n ∧ n ≤ 15
 ·rw [decide_eq_true h.1, decide_eq_true h.2, (div4 h.1 h.2).1, (div4 h.1 h.2).2]; rfl
 ·have : (decide (0 ≤ n) && decide (n ≤ 15)) = false := by rw [← Bool.decide_and]; exact decide_eq_false h
  rw [this]; rfl
def zBl (occ : Int) (k n : Nat) : List Int := (List.range' k n).map fun i : Nat => 4 * occ + (i : Int)
theorem zTY (o : Int) (ho : 0 ≤ o ∧ o ≤ 3) (t : Int) (D : List PV) (n : Nat) (hn : n ≤ 4) : ∀ (k i : Nat) (acc : List Int), i + k = n → acc.length ≤ i →
 zEF t o D (n : Int) (i : Int) (acc.map intp) = zEF t o D (n : Int) (n : Int) ((acc ++ zBl o i k).map intp)
 | 0, i, acc, h, hl => by
  rw [show i = n by omega]; simp [zBl]
 | k + 1, i, acc, h, hl => by
  have hi : i < n := by omega
  rw [zGp]
  have hc : colI o (i : Int) = 4 * o + (i : Int) := by
   unfold colI
   rw [decide_eq_true ho.1, decide_eq_true ho.2, decide_eq_true (show (0 : Int) ≤ i by omega), decide_eq_true (show (i : Int) ≤ 3 by omega)]; rfl
  simp only [zAZ hi, cond_true, zWO, Option.bind_some, c_i64_mk, hc, List.length_map, Bool.true_and, decide_eq_true (show acc.length + 1 ≤ 4294967296 by omega)]
  rw [zP (by omega)]
  have := zTY o ho t D n hn k (i + 1) (acc ++ [4 * o + (i : Int)]) (by omega) (by simp; omega)
  simp only [List.map_append, List.map_cons, List.map_nil] at this
  refine this.trans ?_
  rw [show zBl o i (k + 1) = (4 * o + (i : Int)) :: zBl o (i + 1) k from by simp [zBl, List.range'_succ]]
  simp only [List.map_append, List.map_cons, List.append_assoc, List.cons_append, List.nil_append]
def ofT (T : List Def) (D : List (List (List Val))) (t o : Int) : Option (List Int × List (List Val)) :=
 bif fits T D && (decide (0 ≤ t) && decide (t ≤ (T.length : Int) - 1)) && (decide (0 ≤ o) && decide (o ≤ 3)) then some (zBl o 0 (zCu T t.toNat).toNat, D.getD t.toNat []) else none
def ofP (x : Option (List Int × List (List Val))) : PV := match x with | some b => .tup [bagp b.1 b.2, .bool true] | none => .tup [bagp [] [], .bool false]
theorem zJq {T : List Def} {D : List (List (List Val))} (h : fits T D = true) : D.length = T.length ∧ mayC T = true ∧ ∀ i (hi : i < D.length), zPV T i D[i] = true := by
 unfold fits at h
 simp only [Bool.and_eq_true, decide_eq_true_eq, List.all_eq_true, List.mem_range] at h
 refine ⟨h.1.2, h.1.1, fun i hi => ?_⟩
 have := h.2 i hi
 simpa [List.getElem?_eq_getElem hi] using this
theorem zGL {T : List Def} (h : mayC T = true) {i : Nat} (hi : i < T.length) : 1 ≤ zCu T i ∧ zCu T i ≤ 4 := by
 unfold mayC at h
 simp only [Bool.and_eq_true, List.all_eq_true] at h
 have := h.2 _ (List.getElem_mem hi)
 unfold oneD at this
 simp only [Bool.and_eq_true, decide_eq_true_eq] at this
 unfold zCu
 rw [List.getElem?_eq_getElem hi]
 exact this.1
theorem zQJ {T : List Def} {i : Nat} {t : List (List Val)} (h : zPV T i t = true) (hc : zCu T i ≤ 4) : t.length ≤ 8 ∧ ∀ r ∈ t, (r.length : Int) = zCu T i ∧ r.length ≤ 4 ∧ r.all mayV = true := by
 unfold zPV at h
 simp only [Bool.and_eq_true, decide_eq_true_eq, List.all_eq_true] at h
 refine ⟨h.1, fun r hr => ?_⟩
 have := h.2 r hr
 unfold zNy at this
 simp only [Bool.and_eq_true, decide_eq_true_eq] at this
 exact ⟨this.1, by omega, this.2⟩
end Go.Cf

namespace Go.Cf
open Go Go.Ab
set_option linter.unusedVariables false
set_option linter.unusedSimpArgs false
theorem zUk (l : List Int) (g : Nat) (fs cs : List PV) (f : Int → Bool) (hl : l.length ≤ 9223372036854775807) (hf : ∀ x ∈ l, wc W g (fs ++ [.int .i64 x] ++ cs) = some (.bool (f x))) :
 wc W zBB [zAs l, .fn g fs cs] = some (.int .i64 (idxI l f)) := by
 unfold zAs
 rw [zEP, List.length_map]
 refine zGb (fun i => zAU (l.map intp) (.fn g fs cs) l.length i) l f (fun n => some (.int .i64 n)) (fun i hi => ?_) ?_
 ·rw [zB0]
  simp only [zAZ hi, zAM, cond_true, Int.toNat_natCast, List.getElem?_map, List.getElem?_eq_getElem hi, Option.map_some, Option.bind_some, zGq, asFn_mk]
  rw [hf _ (List.getElem_mem hi), zA3 (by omega) (by omega)]
  simp only [Option.bind_some, c_b_mk]
 ·rw [zB0]; simp
theorem zQK (l : List Int) (g : Nat) (fs cs : List PV) (f : Int → Bool) (hl : l.length ≤ 9223372036854775807) (hf : ∀ x ∈ l, wc W g (fs ++ [.int .i64 x] ++ cs) = some (.bool (f x))) :
 wc W zAO [zAs l, .fn g fs cs] = some (.bool (l.any f)) := by
 have h := zDW (l.map intp) (.fn g fs cs)
 rw [zA] at h
 rw [h, zUk l g fs cs f hl hf]
 simp [← zGa]
theorem zLm (l : List Int) (n : Int) (hl : l.length ≤ 9223372036854775807) : wc W zA9 [zAs l, .int .i64 n] = some (.bool (inC l n)) := by
 have h := zEe (l.map intp) n
 rw [zA, zPP l n hl] at h
 rw [h]
 have h1 : decide (idxI l (fun y => n == y) ≥ 0) = inC l n := by
  have := zIp (c := l) (x := n)
  by_cases hh : idxI l (fun y => n == y) < 0
  ·rw [decide_eq_true hh] at this
   rw [decide_eq_false (by omega)]
   cases h2 : inC l n with
   | false => rfl
   | true => rw [h2] at this; cases this
  ·rw [decide_eq_false hh] at this
   rw [decide_eq_true (by omega)]
   cases h2 : inC l n with
   | true => rfl
   | false => rw [h2] at this; cases this
 simp only [Option.bind_some, c_i64_mk, h1]
end Go.Cf

namespace Go.Cf
open Go Go.Ab
set_option linter.unusedVariables false
set_option linter.unusedSimpArgs false
def zFT (l a : List Int) : Bool := l.all (inC a)
theorem zJr (l a : List Int) (hl : l.length ≤ 9223372036854775807) (ha : a.length ≤ 9223372036854775807) : wc W zBf [zAs l, zAs a] = some (.bool (zFT l a)) := by
 have h := zLJ (l.map intp) (a.map intp)
 rw [zA, zA] at h
 rw [h, zQK l zDV [] [.imm 0 (zAs a) 0] (fun n => !inC a n) hl (fun x _ => by
  have h1 := zJ4 x (a.map intp)
  rw [zA] at h1
  refine h1.trans ?_
  rw [zLm a x ha]; rfl)]
 simp only [Option.bind_some, c_b_mk, zIo]
 rfl
def zWQ (l : List Int) : Bool := decide ((Lib.compact (zEc l)).length = l.length)
theorem zWR (a b : Nat) : (((a : Nat) : Int) == ((b : Nat) : Int)) = decide (a = b) := by
 by_cases h : a = b
 ·rw [decide_eq_true h, zNq (by rw [h])]
 ·rw [decide_eq_false h, zER (by omega)]
theorem zYN (l : List Int) (hl : l.length ≤ 4294967296) : wc W zFt [zAs l] = some (.bool (zWQ l)) := by
 have h := zNf (l.map intp)
 have h1 := zEN (l.map intp) (by simpa using hl)
 have h2 := zDN false 0 l hl
 have h3 := zC3 0 (zEc l) (by rw [zFr]; exact hl)
 have e1 : ∀ l : List Int, l.map intp = l.map (PV.int .i64) := fun _ => rfl
 refine h.trans ?_
 rw [h1]
 simp only [Option.bind_some, k_d697de_mk]
 rw [e1, h2]
 simp only [Option.bind_some, k_cad770_mk, h3, k_b7636c_mk, c_s0_mk, List.length_map, zWR]
 rfl
def zH0 (T : List Def) (occ : List Int) (o : Nat) : Bool := decide (0 ≤ occ.getD o 0) && decide (occ.getD o 0 < (T.length : Int))
def zW (T : List Def) (occ : List Int) (o : Nat) : List Int := zBl (o : Int) 0 (zCu T (occ.getD o 0).toNat).toNat
def allL (T : List Def) (occ : List Int) (is : Nat → Bool) (i k : Nat) : List Int := (List.range' i k).flatMap fun o => bif is o && zH0 T occ o then zW T occ o else []
theorem zIs (o : Int) (k n : Nat) : (zBl o k n).length = n := by simp [zBl]
theorem all3 (T : List Def) (g : PV) (A B C D : List PV) (i37 i40 i42 : Int) (o : Nat) (ho : o ≤ 3) (n : Nat) (hn : n ≤ 4) : ∀ (k j : Nat) (acc : List Int), j + k = n → acc.length ≤ 1000 + j →
 zDa g (T.map Def.pv) A B i37 C D i40 (o : Int) i42 (o : Int) (n : Int) (j : Int) (acc.map intp) = zBJ g (T.map Def.pv) A B i37 C D i40 i42 ((o + 1 : Nat) : Int) ((acc ++ zBl (o : Int) j k).map intp)
 | 0, j, acc, h, hl => by
  rw [zF6, show j = n by omega]
  simp only [zCt, cond_false, zBl, List.range'_zero, List.map_nil, List.append_nil]
  rw [zP (by omega)]
 | k + 1, j, acc, h, hl => by
  have hj : j < n := by omega
  rw [zF6]
  have hc : colI (o : Int) (j : Int) = 4 * (o : Int) + (j : Int) := by
   unfold colI
   rw [decide_eq_true (show (0 : Int) ≤ o by omega), decide_eq_true (show (o : Int) ≤ 3 by omega), decide_eq_true (show (0 : Int) ≤ j by omega), decide_eq_true (show (j : Int) ≤ 3 by omega)]; rfl
  simp only [zAZ hj, cond_true, zWO, Option.bind_some, c_i64_mk, hc, List.length_map, Bool.true_and, decide_eq_true (show acc.length + 1 ≤ 4294967296 by omega)]
  rw [zP (by omega)]
  have := all3 T g A B C D i37 i40 i42 o ho n hn k (j + 1) (acc ++ [4 * (o : Int) + (j : Int)]) (by omega) (by simp; omega)
  simp only [List.map_append, List.map_cons, List.map_nil] at this
  refine this.trans ?_
  rw [show zBl (o : Int) j (k + 1) = (4 * (o : Int) + (j : Int)) :: zBl (o : Int) (j + 1) k from by simp [zBl, List.range'_succ]]
  simp only [List.map_append, List.map_cons, List.append_assoc, List.cons_append, List.nil_append]
theorem all1 (T : List Def) (hT : mayC T = true) (occ : List Int) (g : Nat) (fs cs : List PV) (is : Nat → Bool) (P C D : List PV) (i5 i8 : Int) (n : Nat) (hn : n ≤ 4) (hno : n ≤ occ.length) (his : ∀ o, o < n → wc W g (fs ++ [.int .i64 (o : Int)] ++ cs) = some (.bool (is o))) :
 ∀ (k i : Nat) (acc : List Int), i + k = n → acc.length ≤ 4 * i →
 zBJ (.fn g fs cs) (T.map Def.pv) (occ.map intp) P i5 C D i8 (n : Int) (i : Int) (acc.map intp) = some (zAs (acc ++ allL T occ is i k))
 | 0, i, acc, h, hl => by
  rw [zF5, show i = n by omega]
  simp only [zCt, cond_false, allL, List.range'_zero, List.flatMap_nil, List.append_nil]
  rfl
 | k + 1, i, acc, h, hl => by
  have hi : i < n := by omega
  have hio : i < occ.length := by omega
  have ho : occ.getD i 0 = occ[i] := by rw [List.getD_eq_getElem?_getD, List.getElem?_eq_getElem hio]; rfl
  have hstep : allL T occ is i (k + 1) = (bif is i && zH0 T occ i then zW T occ i else []) ++ allL T occ is (i + 1) k := by
   unfold allL
   rw [List.range'_succ, List.flatMap_cons]
  rw [zF5, hstep]
  simp only [zAZ hi, zAM, cond_true, Int.toNat_natCast, List.getElem?_map, List.getElem?_eq_getElem hio, Option.map_some, Option.bind_some, zGq, asFn_mk, his i hi, c_b_mk]
  have skip := all1 T hT occ g fs cs is P C D i5 i8 n hn hno his k (i + 1) acc (by omega) (by omega)
  cases hb : is i with
  | false =>
   simp only [Bool.not_false, cond_true, Bool.false_and, cond_false, List.nil_append]
   rw [zP (by omega)]; exact skip
  | true =>
   simp only [Bool.not_true, cond_false, Bool.true_and]
   unfold zH0
   rw [ho]
   by_cases h0 : occ[i] < 0
   ·rw [decide_eq_true h0, decide_eq_false (show ¬ 0 ≤ occ[i] by omega)]
    simp only [cond_true, Bool.false_and, cond_false, List.nil_append]
    rw [zP (by omega)]; exact skip
   rw [decide_eq_false h0, decide_eq_true (show 0 ≤ occ[i] by omega)]
   simp only [cond_false, Bool.true_and, List.length_map]
   by_cases h1 : occ[i] < (T.length : Int)
   ·rw [decide_eq_false (show ¬ occ[i] ≥ (T.length : Int) by omega), decide_eq_true h1, cond_false, cond_true, zJ1]
    obtain ⟨m, hm⟩ := Int.eq_ofNat_of_zero_le (show 0 ≤ occ[i] by omega)
    have hmT : m < T.length := by omega
    have hcols := zGL hT hmT
    obtain ⟨c, hc⟩ := Int.eq_ofNat_of_zero_le (show 0 ≤ zCu T m by omega)
    have hcA : T[m].Cols = (c : Int) := by
     have := hc; unfold zCu at this; rw [List.getElem?_eq_getElem hmT] at this; exact this
    rw [hm]
    simp only [zAM, cond_true, Int.toNat_natCast, List.getElem?_map, List.getElem?_eq_getElem hmT, Option.map_some, Option.bind_some, Def.load0, c_i64_mk, hcA]
    have h3 := all3 T (.fn g fs cs) (occ.map intp) P C D i5 i8 (n : Int) i (by omega) c (by omega) c 0 acc (by omega) (by omega)
    refine h3.trans ?_
    have hq : zW T occ i = zBl (i : Int) 0 c := by unfold zW; rw [ho, hm, Int.toNat_natCast, hc, Int.toNat_natCast]
    rw [hq, ← List.append_assoc]
    exact all1 T hT occ g fs cs is P C D i5 i8 n hn hno his k (i + 1) (acc ++ zBl (i : Int) 0 c) (by omega) (by rw [List.length_append, zIs]; omega)
   ·rw [decide_eq_true (show occ[i] ≥ (T.length : Int) by omega), decide_eq_false h1]
    simp only [cond_true, cond_false, List.nil_append]
    rw [zP (by omega)]; exact skip
end Go.Cf

namespace Go.Cf
open Go Go.Ab
set_option linter.unusedVariables false
set_option linter.unusedSimpArgs false
def zBm (occ : List Int) (p : List PV) (by_ : Int) (sums out : List Int) (ord : Int) : PV := .agg [zAs occ, .slice 6 p, .int .i64 by_, zAs sums, zAs out, .int .i64 ord]
@[simp] theorem zAH (occ : List Int) (p : List PV) (by_ : Int) (sums out : List Int) (ord : Int) : PV.agg [zAs occ, .slice 6 p, .int .i64 by_, zAs sums, zAs out, .int .i64 ord] = zBm occ p by_ sums out ord := rfl
def zM9 (T : List Def) (occ : List Int) : List Int := allL T occ (fun _ => true) 0 (min occ.length 4)
theorem zQL (T : List Def) (hT : mayC T = true) (occ : List Int) (is : Nat → Bool) : ∀ (k i : Nat), (allL T occ is i k).length ≤ 4 * k
 | 0, i => by simp [allL]
 | k + 1, i => by
  have ih := zQL T hT occ is k (i + 1)
  unfold allL at ih ⊢
  rw [List.range'_succ, List.flatMap_cons, List.length_append]
  have : (bif is i && zH0 T occ i then zW T occ i else []).length ≤ 4 := by
   cases hc : is i && zH0 T occ i with
   | false => simp
   | true =>
    simp only [Bool.and_eq_true] at hc
    have h2 := hc.2
    unfold zH0 at h2
    simp only [Bool.and_eq_true, decide_eq_true_eq] at h2
    have := zGL hT (i := (occ.getD i 0).toNat) (by omega)
    simp only [cond_true, zW, zIs]
    omega
  omega
theorem zYd (T : List Def) (hT : mayC T = true) (occ : List Int) (p : List PV) (by_ : Int) (sums out : List Int) (ord : Int) (g : Nat) (fs cs : List PV) (is : Nat → Bool) (his : ∀ o, o < min occ.length 4 → wc W g (fs ++ [.int .i64 (o : Int)] ++ cs) = some (.bool (is o))) :
 wc W zHJ [catp T, zBm occ p by_ sums out ord, .fn g fs cs] = some (zAs (allL T occ is 0 (min occ.length 4))) := by
 have h := zPC (T.map Def.pv) (occ.map intp) p by_ (sums.map intp) (out.map intp) ord (.fn g fs cs)
 rw [zAA, zA, zA, zA, zAH] at h
 refine h.trans ?_
 have e : (bif (decide ((4 : Int) < (((occ.map intp).length : Nat) : Int))) then (4 : Int) else (((occ.map intp).length : Nat) : Int)) = ((min occ.length 4 : Nat) : Int) := by
  rw [List.length_map]
  by_cases h4 : 4 < occ.length
  ·rw [decide_eq_true (by omega), cond_true, Nat.min_eq_right (by omega)]; rfl
  ·rw [decide_eq_false (by omega), cond_false, Nat.min_eq_left (by omega)]
 rw [e]
 have := all1 T hT occ g fs cs is p (sums.map intp) (out.map intp) by_ ord (min occ.length 4) (by omega) (by omega) his (min occ.length 4) 0 [] (by omega) (by simp)
 simpa using this
def zR4 (cols : List Int) (e : Ex) : Bool := !(zFb e).isEmpty && zFT (zFb e) cols
def zUl (by_ : Int) (sums out : List Int) (ord : Int) (cols : List Int) : Bool :=
 bif by_ == -1 then decide (1 ≤ out.length) && decide (out.length ≤ 8) && zWQ out && zFT out cols && decide (sums.length = 0) && (ord == -1 || inC out ord)
 else zFT [by_] cols && decide (sums.length ≤ 4) && zFT sums cols && decide (out.length = 0) && (ord == -1 || ord == by_)
def mayQ (T : List Def) (occ : List Int) (P : List Ex) (by_ : Int) (sums out : List Int) (ord : Int) : Bool :=
 mayC T && decide (1 ≤ occ.length) && decide (occ.length ≤ 4) && (occ.all fun t => decide (0 ≤ t) && decide (t < (T.length : Int))) && decide (P.length ≤ 6) && P.all (zR4 (zM9 T occ)) && zUl by_ sums out ord (zM9 T occ)
theorem zNz (e : Ex) : (zFb e).length ≤ 30 := by
 unfold zFb
 cases h : mayT e with
 | false => simp
 | true =>
  have h1 := zPS h
  have h2 := (zIr e.sz).1 e (Nat.le_refl _)
  have h3 : (Lib.compact (zEc (zHZ e))).length ≤ (zEc (zHZ e)).length := by
   unfold Lib.compact Lib.compactUpTo
   rw [List.length_map]
   exact Nat.le_trans (List.length_filter_le _ _) (by simp)
  rw [zFr] at h3
  simp only [cond_true]; omega
theorem zYO (occ : List PV) (P : List PV) (by_ : Int) (sums out : List Int) (ord : Int) (cols : List Int) (l : List PV) (hs : sums.length ≤ 4294967296) (ho : out.length ≤ 4294967296) (hc : cols.length ≤ 1000) :
 zCi occ P by_ (sums.map intp) (out.map intp) ord (cols.map intp) l (l.length : Int) (l.length : Int) = some (.bool (zUl by_ sums out ord cols)) := by
 rw [zF1]
 simp only [zCt, cond_false, List.length_map]
 unfold zUl
 by_cases hb : by_ = -1
 ·rw [zNq hb, cond_true, cond_true]
  have j3 : ∀ b, zCC occ P by_ (sums.map intp) (out.map intp) ord b = some (.bool (b && decide (sums.length = 0) && (ord == -1 || inC out ord))) := fun b => by
   rw [zJY]
   cases b with
   | false => rfl
   | true =>
    simp only [cond_true, List.length_map, Bool.true_and, zA, zLm out ord (by omega), Option.bind_some, c_b_mk]
    by_cases hs0 : sums.length = 0
    ·rw [zNq (show ((sums.length : Nat) : Int) = 0 by omega), decide_eq_true hs0]
     simp only [cond_true, Bool.true_and]
     cases ord == -1 <;> rfl
    ·rw [zER (show ((sums.length : Nat) : Int) ≠ 0 by omega), decide_eq_false hs0]; rfl
  simp only [j3, zA, zYN out ho, zJr out cols (by omega) (by omega), Option.bind_some, c_b_mk]
  rw [show decide (((out.length : Nat) : Int) ≥ 1) = decide (1 ≤ out.length) from decide_eq_decide.2 (by omega), show decide (((out.length : Nat) : Int) ≤ 8) = decide (out.length ≤ 8) from decide_eq_decide.2 (by omega)]
  cases decide (1 ≤ out.length) <;> cases decide (out.length ≤ 8) <;> cases zWQ out <;> simp
 ·rw [zER hb, cond_false, cond_false]
  have e1 : PV.slice 0 [PV.int .i64 by_] = zAs [by_] := rfl
  simp only [e1, zA, zJr [by_] cols (by simp) (by omega), zJr sums cols (by omega) (by omega), Option.bind_some, c_b_mk]
  rw [show decide (((sums.length : Nat) : Int) ≤ 4) = decide (sums.length ≤ 4) from decide_eq_decide.2 (by omega), show (((out.length : Nat) : Int) == 0) = decide (out.length = 0) from by
   by_cases h : out.length = 0
   ·rw [zNq (by omega), decide_eq_true h]
   ·rw [zER (by omega), decide_eq_false h]]
  cases zFT [by_] cols <;> cases decide (sums.length ≤ 4) <;> cases zFT sums cols <;> cases decide (out.length = 0) <;> cases ord == -1 <;> simp
theorem zPW (T : List Def) (occ : List Int) (P : List Ex) (by_ : Int) (sums out : List Int) (ord : Int) (hT : T.length ≤ 9223372036854775807) (hocc : occ.length ≤ 9223372036854775807) (hP : P.length ≤ 9223372036854775807) (hok : ∀ e ∈ P, e.ok)
 (hs : sums.length ≤ 4294967296) (ho : out.length ≤ 4294967296) : wc W zHG [catp T, zBm occ (P.map Ex.pv) by_ sums out ord] = some (.bool (mayQ T occ P by_ sums out ord)) := by
 have h := zOx (T.map Def.pv) (occ.map intp) (P.map Ex.pv) by_ (sums.map intp) (out.map intp) ord
 rw [zAA, zA, zA, zA, zAH] at h
 refine h.trans ?_
 rw [zLl T hT]
 simp only [Option.bind_some, c_b_mk, List.length_map]
 unfold mayQ
 cases h1 : mayC T with
 | false => rfl
 | true =>
 simp only [Bool.not_true, cond_false, Bool.true_and]
 by_cases h2 : occ.length < 1
 ·rw [decide_eq_true (show ((occ.length : Nat) : Int) < 1 by omega), decide_eq_false (show ¬ 1 ≤ occ.length by omega)]; simp
 rw [decide_eq_false (show ¬ ((occ.length : Nat) : Int) < 1 by omega), decide_eq_true (show 1 ≤ occ.length by omega)]
 by_cases h3 : 4 < occ.length
 ·rw [decide_eq_true (show ((occ.length : Nat) : Int) > 4 by omega), decide_eq_false (show ¬ occ.length ≤ 4 by omega)]; simp
 rw [decide_eq_false (show ¬ ((occ.length : Nat) : Int) > 4 by omega), decide_eq_true (show occ.length ≤ 4 by omega)]
 simp only [cond_false, Bool.true_and]
 rw [zQK occ zFI [] [.imm 2 (catp T) 0] (fun t => !(decide (0 ≤ t) && decide (t < (T.length : Int)))) (by omega) (fun t _ => by
  have h4 := zMY t (T.map Def.pv)
  rw [zAA] at h4
  refine h4.trans ?_
  rw [List.length_map]
  by_cases a : t < 0
  ·rw [decide_eq_true a, decide_eq_false (show ¬ 0 ≤ t by omega)]; rfl
  ·rw [decide_eq_false a, decide_eq_true (show 0 ≤ t by omega)]
   by_cases b : t < (T.length : Int)
   ·rw [decide_eq_true b, decide_eq_false (show ¬ t ≥ (T.length : Int) by omega)]; rfl
   ·rw [decide_eq_false b, decide_eq_true (show t ≥ (T.length : Int) by omega)]; rfl)]
 simp only [Option.bind_some, c_b_mk]
 rw [← zIo (f := fun t : Int => decide (0 ≤ t) && decide (t < (T.length : Int)))]
 cases h5 : occ.any fun t => !(decide (0 ≤ t) && decide (t < (T.length : Int))) with
 | true => simp
 | false =>
 simp only [cond_false, Bool.not_false, Bool.true_and]
 by_cases h6 : 6 < P.length
 ·rw [decide_eq_true (show ((P.length : Nat) : Int) > 6 by omega), decide_eq_false (show ¬ P.length ≤ 6 by omega)]; simp
 rw [decide_eq_false (show ¬ ((P.length : Nat) : Int) > 6 by omega), decide_eq_true (show P.length ≤ 6 by omega)]
 simp only [cond_false, Bool.true_and, zJX, zAA, zA, zAH]
 have hall := zYd T h1 occ (P.map Ex.pv) by_ sums out ord zFJ [] [] (fun _ => true) (fun o _ => zMZ (o : Int))
 rw [hall]
 have hcl := zQL T h1 occ (fun _ => true) (min occ.length 4) 0
 have ecols : allL T occ (fun _ => true) 0 (min occ.length 4) = zM9 T occ := rfl
 rw [ecols] at hcl ⊢
 generalize zM9 T occ = cols at hcl ⊢
 simp only [Option.bind_some, zDY, List.length_map]
 have hloop := zJm (fun i => zCi (occ.map intp) (P.map Ex.pv) by_ (sums.map intp) (out.map intp) ord (cols.map intp) (P.map Ex.pv) (P.length : Int) i) P.length (fun i => (P[i]?).all (zR4 cols)) (some (.bool false)) (some (.bool (zUl by_ sums out ord cols))) (fun i hi => ?_) ?_
 ·refine hloop.trans ?_
  rw [zTE P (zR4 cols)]
  cases P.all (zR4 cols) <;> rfl
 ·have hm := List.getElem_mem hi
  conv => lhs; rw [zF1]
  simp only [zAZ hi, zAM, cond_true, Int.toNat_natCast, List.getElem?_map, List.getElem?_eq_getElem hi, Option.map_some, Option.bind_some, Ex.c_mk, Ex.fold, zVW P[i] (hok _ hm), zDY, List.length_map, Option.all_some]
  have hcl2 : (zFb P[i]).length ≤ 9223372036854775807 := by
   have := zNz P[i]; omega
  simp only [zA, zJr (zFb P[i]) cols hcl2 (by omega), Option.bind_some, c_b_mk]
  rw [zA3 (by omega) (by omega)]
  unfold zR4
  cases hc : zFb P[i] with
  | nil => rfl
  | cons a r =>
   rw [zER (show (((a :: r).length : Nat) : Int) ≠ 0 by simp; omega)]
   simp only [cond_false, List.isEmpty_cons, Bool.not_false, Bool.true_and]
   cases zFT (a :: r) cols <;> rfl
 ·have := zYO (occ.map intp) (P.map Ex.pv) by_ sums out ord cols (P.map Ex.pv) hs ho (by omega)
  simpa using this
end Go.Cf

namespace Go.Cf
open Go Go.Ab
set_option linter.unusedVariables false
set_option linter.unusedSimpArgs false
def occI (c : Int) : Nat := bif decide (0 ≤ c) && decide (c ≤ 15) then (c / 4).toNat else 0
def setC : Nat → List Int → Nat
 | s, [] => s
 | s, c :: r => setC (s ||| 2 ^ occI c) r
theorem zEg (c : Int) : occI c < 4 := by
 unfold occI
 cases h : decide (0 ≤ c) && decide (c ≤ 15) with
 | false => simp
 | true =>
  simp only [Bool.and_eq_true, decide_eq_true_eq] at h
  simp only [cond_true]
  omega
theorem zR5 : ∀ o : Nat, o < 4 → 2 ^ o < 16 := by decide
theorem zR6 : ∀ x : Nat, x < 16 → ∀ y : Nat, y < 16 → x ||| y < 16 := by decide +kernel
theorem zV1 : ∀ x : Nat, x < 16 → ∀ y : Nat, y < 16 → IntKind.wrap .i64 (((BitVec.toNat (HOr.hOr (BitVec.ofInt 64 (x : Int)) (BitVec.ofInt 64 (y : Int)))) : Nat) : Int) = ((x ||| y : Nat) : Int) := by decide +kernel
theorem zWS : ∀ x : Nat, x < 16 → ∀ y : Nat, y < 16 → IntKind.wrap .i64 (((BitVec.toNat (HAnd.hAnd (BitVec.ofInt 64 (x : Int)) (BitVec.ofInt 64 (y : Int)))) : Nat) : Int) = ((x &&& y : Nat) : Int) := by decide +kernel
theorem shl4 : ∀ o : Nat, o < 4 → IntKind.wrap .i64 ((1 : Int) * (HPow.hPow (2 : Int) (Min.min (Int.toNat (o : Int)) 64)) : Int) = ((2 ^ o : Nat) : Int) := by decide +kernel
theorem zTZ : ∀ (l : List Int) (s : Nat), s < 16 → setC s l < 16
 | [], s, h => h
 | c :: r, s, h => zTZ r _ (zR6 _ h _ (zR5 _ (zEg c)))
theorem zQM (l : List Int) (hl : l.length ≤ 1000000) : ∀ (k i s : Nat), i + k = l.length → s < 16 →
 zE7 (s : Int) (l.map intp) (l.length : Int) (i : Int) = some (.int .i64 (setC s (l.drop i) : Nat))
 | 0, i, s, h, hs => by
  rw [zGG, show i = l.length by omega]
  simp [setC]
 | k + 1, i, s, h, hs => by
  have hi : i < l.length := by omega
  rw [zGG, List.drop_eq_getElem_cons hi]
  simp only [zAZ hi, zAM, cond_true, Int.toNat_natCast, List.getElem?_map, List.getElem?_eq_getElem hi, Option.map_some, Option.bind_some, zGq, zWP, setC]
  have hsp : ∃ q b, zQI l[i] = .tup [.int .i64 (occI l[i] : Int), q, .bool b] ∧ ∃ z, q = .int .i64 z := by
   unfold zQI occI
   cases hc : decide (0 ≤ l[i]) && decide (l[i] ≤ 15) with
   | false => exact ⟨_, _, rfl, _, rfl⟩
   | true =>
    simp only [Bool.and_eq_true, decide_eq_true_eq] at hc
    refine ⟨.int .i64 (l[i] % 4), true, ?_, l[i] % 4, rfl⟩
    simp only [cond_true]
    rw [show (((l[i] / 4).toNat : Nat) : Int) = l[i] / 4 by omega]
  obtain ⟨q, b, e, z, rfl⟩ := hsp
  have h4 := zEg l[i]
  rw [e]
  simp only [asTup_mk, Option.bind_some, List.getElem?_cons_zero, List.getElem?_cons_succ, c_i64_mk, c_b_mk]
  rw [decide_eq_false (show ¬ ((occI l[i] : Nat) : Int) < 0 by omega)]
  simp only [cond_false, Option.bind_some, c_i64_mk]
  rw [shl4 _ h4, zV1 _ hs _ (zR5 _ h4), zP (by omega)]
  exact zQM l hl k (i + 1) _ (by omega) (zR6 _ hs _ (zR5 _ h4))
theorem zWT (l : List Int) (hl : l.length ≤ 1000000) : wc W zIi [zAs l] = some (.int .i64 (setC 0 l : Nat)) := by
 have h := zRW (l.map intp)
 rw [zA] at h
 rw [h, List.length_map]
 exact zQM l hl l.length 0 0 (by omega) (by omega)
def setE (e : Ex) : Nat := setC 0 (zFb e)
theorem zMa (e : Ex) : setE e < 16 := zTZ _ _ (by omega)
theorem zLn (e : Ex) (he : e.ok) : wc W zG6 [e.pv] = some (.int .i64 (setE e : Nat)) := by
 have h := zRS e.op e.col e.v.K e.v.N (e.l.map Ex.pv)
 rw [Ex.fold] at h
 rw [h, zVW e he]
 have := zNz e
 simp only [Option.bind_some, zDY, zA, zWT (zFb e) (by omega), c_i64_mk]
 rfl
def zK (s t : Nat) : Bool := decide (s &&& t = t)
theorem zMb (s t : Nat) (hs : s < 16) (ht : t < 16) : wc W zAS [.int .i64 (s : Int), .int .i64 (t : Int)] = some (.bool (zK s t)) := by
 rw [zIm, zWS _ hs _ ht]
 unfold zK
 by_cases h : s &&& t = t
 ·rw [zNq (by rw [h]), decide_eq_true h]
 ·rw [zER (by omega), decide_eq_false h]
theorem zWU (P : List Ex) (g : Nat) (fs cs : List PV) (f : Nat → Bool) (hP : P.length ≤ 1000000) (hok : ∀ e ∈ P, e.ok) (hf : ∀ t, t < 16 → wc W g (fs ++ [.int .i64 ((t : Nat) : Int)] ++ cs) = some (.bool (f t))) :
 ∀ (k i : Nat) (acc : List Int), i + k = P.length → acc.length ≤ i →
 zCN (.fn g fs cs) (P.map Ex.pv) (P.length : Int) (i : Int) (acc.map intp) = some (zAs (acc ++ ((List.range' i k).filter fun j => (P[j]?).any fun e => f (setE e)).map fun n : Nat => (n : Int)))
 | 0, i, acc, h, ha => by
  rw [zEr, show i = P.length by omega]
  simp
 | k + 1, i, acc, h, ha => by
  have hi : i < P.length := by omega
  have hm := List.getElem_mem hi
  rw [zEr, List.range'_succ, List.filter_cons]
  simp only [zAZ hi, zAM, cond_true, Int.toNat_natCast, List.getElem?_map, List.getElem?_eq_getElem hi, Option.map_some, Option.bind_some, Ex.c_mk, Ex.fold, zLn _ (hok _ hm), c_i64_mk, asFn_mk, hf _ (zMa _), c_b_mk, Option.any_some]
  rw [zP (by omega)]
  cases f (setE P[i]) with
  | true =>
   simp only [cond_true, List.length_map, Bool.true_and, decide_eq_true (show acc.length + 1 ≤ 4294967296 by omega), if_true]
   have := zWU P g fs cs f hP hok hf k (i + 1) (acc ++ [(i : Int)]) (by omega) (by simp; omega)
   simp only [List.map_append, List.map_cons, List.map_nil, List.append_assoc, List.cons_append, List.nil_append] at this ⊢
   exact this
  | false =>
   simp only [cond_false, Bool.false_eq_true, if_false]
   exact zWU P g fs cs f hP hok hf k (i + 1) acc (by omega) (by omega)
def zGM (P : List Ex) (f : Nat → Bool) : List Nat := (List.range' 0 P.length).filter fun j => (P[j]?).any fun e => f (setE e)
theorem zYe (occ : List Int) (P : List Ex) (by_ : Int) (sums out : List Int) (ord : Int) (s : Nat) (hs : s < 16) (hP : P.length ≤ 1000000) (hok : ∀ e ∈ P, e.ok) :
 wc W zHH [zBm occ (P.map Ex.pv) by_ sums out ord, .int .i64 (s : Int)] = some (zAs ((zGM P (zK s)).map fun n : Nat => (n : Int))) := by
 have h := zOz (occ.map intp) (P.map Ex.pv) by_ (sums.map intp) (out.map intp) ord (s : Int)
 have h2 := zNg (occ.map intp) (P.map Ex.pv) by_ (sums.map intp) (out.map intp) ord (.fn zAS [.int .i64 (s : Int)] [])
 rw [zA, zA, zA, zAH] at h h2
 have h3 := zWU P zAS [.int .i64 (s : Int)] [] (zK s) hP hok (fun t ht => zMb s t hs ht) P.length 0 [] (by omega) (by simp)
 rw [h, h2, List.length_map]
 simp only [List.map_nil, List.nil_append] at h3
 have h4 : (0 : Int) = ((0 : Nat) : Int) := rfl
 rw [h4, h3]
 simp only [Option.bind_some, zDY]
 rfl
theorem zYP (t a b : Nat) (s : Nat) (ht : t < 16) (hs : s < 16) (ha : a < 16) (hb : b < 16) : W zCB false [.pv (.int .i64 (t : Int)), .own 0 0, .own 1 0, .own 2 0] [.var false 0 (.pv (.int .i64 (s : Int))), .var false 0 (.pv (.int .i64 (a : Int))), .var false 0 (.pv (.int .i64 (b : Int)))] =
 some (.pv (.bool (zK s t && !zK a t && !zK b t)), [.var false 0 (.pv (.int .i64 (s : Int))), .var false 0 (.pv (.int .i64 (a : Int))), .var false 0 (.pv (.int .i64 (b : Int)))]) := by
 rw [zHx, zMb s t hs ht, zMb a t ha ht, zMb b t hb ht]
 simp only [Option.bind_some, c_b_mk]
 cases zK s t <;> cases zK a t <;> rfl
def newF (a b t : Nat) : Bool := zK (a ||| b) t && !zK a t && !zK b t
theorem zWV (P : List Ex) (a b : Nat) (ha : a < 16) (hb : b < 16) (hP : P.length ≤ 1000000) (hok : ∀ e ∈ P, e.ok) :
 ∀ (k i : Nat) (acc : List Int), i + k = P.length → acc.length ≤ i →
 zBZ (P.map Ex.pv) (P.length : Int) (i : Int) ((a ||| b : Nat) : Int) (a : Int) (b : Int) (acc.map intp) =
  some (.pv (zAs (acc ++ ((List.range' i k).filter fun j => (P[j]?).any fun e => newF a b (setE e)).map fun n : Nat => (n : Int))), [.var false 0 (.pv (.int .i64 ((a ||| b : Nat) : Int))), .var false 0 (.pv (.int .i64 (a : Int))), .var false 0 (.pv (.int .i64 (b : Int)))])
 | 0, i, acc, h, hc => by
  rw [zD1, show i = P.length by omega]
  simp
 | k + 1, i, acc, h, hc => by
  have hi : i < P.length := by omega
  have hm := List.getElem_mem hi
  rw [zD1, List.range'_succ, List.filter_cons]
  simp only [zAZ hi, zAM, cond_true, Int.toNat_natCast, List.getElem?_map, List.getElem?_eq_getElem hi, Option.map_some, Option.bind_some, Ex.c_mk, Ex.fold, zLn _ (hok _ hm), c_i64_mk, zYP (setE P[i]) a b (a ||| b) (zMa _) (zR6 _ ha _ hb) ha hb, k_10961c_mk, c_b_mk, Option.any_some]
  rw [zP (by omega)]
  unfold newF
  cases zK (a ||| b) (setE P[i]) && !zK a (setE P[i]) && !zK b (setE P[i]) with
  | true =>
   simp only [cond_true, List.length_map, Bool.true_and, decide_eq_true (show acc.length + 1 ≤ 4294967296 by omega), if_true]
   have := zWV P a b ha hb hP hok k (i + 1) (acc ++ [(i : Int)]) (by omega) (by simp; omega)
   unfold newF at this
   simp only [List.map_append, List.map_cons, List.map_nil, List.append_assoc, List.cons_append, List.nil_append] at this ⊢
   exact this
  | false =>
   simp only [cond_false, Bool.false_eq_true, if_false]
   have := zWV P a b ha hb hP hok k (i + 1) acc (by omega) (by omega)
   unfold newF at this
   exact this
def newQ (P : List Ex) (a b : Nat) : List Nat := zGM P (newF a b)
theorem zYf (occ : List Int) (P : List Ex) (by_ : Int) (sums out : List Int) (ord : Int) (a b : Nat) (ha : a < 16) (hb : b < 16) (hP : P.length ≤ 1000000) (hok : ∀ e ∈ P, e.ok) :
 wc W zHK [zBm occ (P.map Ex.pv) by_ sums out ord, .int .i64 (a : Int), .int .i64 (b : Int)] = some (zAs ((newQ P a b).map fun n : Nat => (n : Int))) := by
 have h := zPE (occ.map intp) (P.map Ex.pv) by_ (sums.map intp) (out.map intp) ord (a : Int) (b : Int)
 have h2 := zIl (occ.map intp) (P.map Ex.pv) by_ (sums.map intp) (out.map intp) ord ((a ||| b : Nat) : Int) (a : Int) (b : Int)
 rw [zA, zA, zA, zAH] at h h2
 have h3 := zWV P a b ha hb hP hok P.length 0 [] (by omega) (by simp)
 rw [h, zV1 _ ha _ hb, h2, List.length_map]
 simp only [List.map_nil, List.nil_append] at h3
 have h4 : (0 : Int) = ((0 : Nat) : Int) := rfl
 rw [h4, h3]
 simp only [Option.bind_some, k_10961c_mk, zDY]
 rfl
def exQ (P : List Ex) (idx : List Nat) : List Ex := idx.filterMap fun i => P[i]?
theorem zQN (occ : List PV) (P : List Ex) (by_ : Int) (sums out : List PV) (ord : Int) (idx : List Nat) (hi : ∀ i ∈ idx, i < P.length) (hl : idx.length ≤ 1000000) : ∀ (k j : Nat) (acc : List Ex), j + k = idx.length → acc.length ≤ j →
 zE6 occ (P.map Ex.pv) by_ sums out ord ((idx.map fun n : Nat => (n : Int)).map intp) (idx.length : Int) (j : Int) (acc.map Ex.pv) = some (exsp (acc ++ exQ P (idx.drop j)))
 | 0, j, acc, h, ha => by
  rw [zGD, show j = idx.length by omega]
  simp [exQ, exsp]
 | k + 1, j, acc, h, ha => by
  have hj : j < idx.length := by omega
  have hp := hi _ (List.getElem_mem hj)
  rw [zGD, List.drop_eq_getElem_cons hj]
  simp only [zAZ hj, zAM, cond_true, Int.toNat_natCast, List.getElem?_map, List.getElem?_eq_getElem hj, Option.map_some, Option.bind_some, zGq, List.getElem?_eq_getElem hp, Ex.c_mk, Ex.fold, List.length_map, Bool.true_and, decide_eq_true (show acc.length + 1 ≤ 4294967296 by omega)]
  rw [zP (by omega)]
  have := zQN occ P by_ sums out ord idx hi hl k (j + 1) (acc ++ [P[idx[j]]]) (by omega) (by simp; omega)
  simp only [List.map_append, List.map_cons, List.map_nil] at this
  refine this.trans ?_
  have e : exQ P (idx[j] :: idx.drop (j + 1)) = P[idx[j]] :: exQ P (idx.drop (j + 1)) := by
   unfold exQ
   rw [List.filterMap_cons, List.getElem?_eq_getElem hp]
  rw [e, List.append_assoc]; rfl
theorem zOA (occ : List Int) (P : List Ex) (by_ : Int) (sums out : List Int) (ord : Int) (idx : List Nat) (hi : ∀ i ∈ idx, i < P.length) (hl : idx.length ≤ 1000000) :
 wc W zG4 [zBm occ (P.map Ex.pv) by_ sums out ord, zAs (idx.map fun n : Nat => (n : Int))] = some (exsp (exQ P idx)) := by
 have h := zRM (occ.map intp) (P.map Ex.pv) by_ (sums.map intp) (out.map intp) ord ((idx.map fun n : Nat => (n : Int)).map intp)
 rw [zA, zA, zA, zAH, zA] at h
 rw [h, List.length_map, List.length_map]
 have := zQN (occ.map intp) P by_ (sums.map intp) (out.map intp) ord idx hi hl idx.length 0 [] (by omega) (by simp)
 simpa using this
theorem zQO {P : List Ex} {f : Nat → Bool} {i : Nat} (h : i ∈ zGM P f) : i < P.length := by
 unfold zGM at h
 have := List.mem_range'_1.1 (List.mem_filter.1 h).1
 omega
end Go.Cf

namespace Go.Cf
open Go Go.Ab
set_option linter.unusedVariables false
set_option linter.unusedSimpArgs false
inductive Tree where
 | mk (occ : Int) (l : List Tree)
namespace Tree
def occ : Tree → Int | mk o _ => o
def l : Tree → List Tree | mk _ l => l
@[simp] theorem occ_mk (o : Int) (l : List Tree) : (mk o l).occ = o := rfl
@[simp] theorem l_mk (o : Int) (l : List Tree) : (mk o l).l = l := rfl
@[simp] theorem eta (t : Tree) : mk t.occ t.l = t := by cases t; rfl
theorem ind {P : Tree → Prop} (h : ∀ o l, (∀ t ∈ l, P t) → P (mk o l)) (t : Tree) : P t :=
 Tree.rec (motive_1 := P) (motive_2 := fun l => ∀ t ∈ l, P t) (fun o l ih => h o l ih) (by simp) (fun a r ha hr => by simpa using ⟨ha, hr⟩) t
mutual
def pv : Tree → PV
 | mk o l => .agg [.int .i64 o, .slice 3 (pvs l)]
def pvs : List Tree → List PV
 | [] => []
 | t :: r => pv t :: pvs r
end
theorem zT0 : ∀ l : List Tree, pvs l = l.map pv
 | [] => rfl
 | t :: r => by simp [pvs, zT0 r]
theorem pv_mk (o : Int) (l : List Tree) : (mk o l).pv = .agg [.int .i64 o, .slice 3 (l.map pv)] := by rw [pv, zT0]
theorem pv_eq (t : Tree) : t.pv = .agg [.int .i64 t.occ, .slice 3 (t.l.map pv)] := by cases t; exact pv_mk _ _
@[simp] theorem fold (t : Tree) : PV.agg [.int .i64 t.occ, .slice 3 (t.l.map pv)] = t.pv := (pv_eq t).symm
@[simp] theorem c_mk (t : Tree) {R : Type} (K : Int → List PV → Option R) : zAB t.pv K = K t.occ (t.l.map pv) := by rw [pv_eq]; rfl
def beq : Tree → Tree → Bool
 | mk o l, mk p m => decide (o = p) && beqs l m
where beqs : List Tree → List Tree → Bool
 | [], [] => true
 | a :: r, b :: s => beq a b && beqs r s
 | _, _ => false
theorem zWW : ∀ a b : Tree, beq a b = true ↔ a = b := by
 intro a
 induction a using ind with
 | h o l ih =>
  intro b
  obtain ⟨p, m⟩ := b
  have : ∀ (l m : List Tree), (∀ t ∈ l, ∀ b, beq t b = true ↔ t = b) → (beq.beqs l m = true ↔ l = m) := by
   intro l
   induction l with
   | nil => intro m _; cases m <;> simp [beq.beqs]
   | cons a r ih2 =>
    intro m h
    cases m with
    | nil => simp [beq.beqs]
    | cons b s => simp [beq.beqs, h a (by simp), ih2 s (fun t ht => h t (by simp [ht]))]
  simp [beq, this l m ih]
instance : DecidableEq Tree := fun a b => decidable_of_iff _ (zWW a b)
end Tree
namespace Tree
inductive Ok : Tree → Prop
 | mk (o : Int) (l : List Tree) (ho : I64 o) (hl : l.length ≤ maxLen) (h : ∀ t ∈ l, t.Ok) : Ok (.mk o l)
theorem Ok.occ {t : Tree} (h : t.Ok) : I64 t.occ := by cases h; assumption
theorem Ok.len {t : Tree} (h : t.Ok) : t.l.length ≤ 9223372036854775807 := by cases h; assumption
theorem Ok.part {t : Tree} (h : t.Ok) : ∀ x ∈ t.l, x.Ok := by cases h; assumption
end Tree
theorem zPX (t : Tree) : ∀ m : Int, t.Ok → ∃ n, wc W zAY [t.pv, .int .i64 m] = some (.int .i64 n) := by
 induction t using Tree.ind with
 | h o l ih =>
  intro m ha
  have hll := ha.len
  simp only [Tree.l_mk] at hll
  rw [Tree.pv_mk, zGg]
  have : ∀ (k i : Nat) (n : Int), i + k = l.length → ∃ r, zAx m o (l.map Tree.pv) n (i : Int) = some (.int .i64 r) := by
   intro k
   induction k with
   | zero =>
    intro i n h
    simp at h; subst h
    exact ⟨n, by rw [zCM]; simp⟩
   | succ k ih2 =>
    intro i n h
    have hi : i < l.length := by omega
    rw [zCM]
    simp only [List.length_map, zAZ hi, cond_true]
    cases decide (n ≤ m) with
    | false => exact ⟨n, rfl⟩
    | true =>
     obtain ⟨q, hq⟩ := ih l[i] (List.getElem_mem hi) (IntKind.wrap .i64 (m - n)) (ha.part _ (List.getElem_mem hi))
     obtain ⟨r, hr⟩ := ih2 (i + 1) (IntKind.wrap .i64 (n + q)) (by omega)
     refine ⟨r, ?_⟩
     rw [cond_true, zEd]
     simp only [zAM, cond_true, Int.toNat_natCast, List.getElem?_map, List.getElem?_eq_getElem hi, Option.map_some, Option.bind_some, Tree.c_mk, Tree.fold, hq, c_i64_mk]
     rw [zA3 (n := (i : Int) + 1) (by omega) (by omega)]
     exact hr
  exact this l.length 0 1 (by omega)
def setO : Nat → Tree → Option Nat
 | 0, _ => none
 | _ + 1, .mk o [] => bif decide (0 ≤ o) && decide (o < 4) then some (2 ^ o.toNat) else none
 | d + 1, .mk o [a, b] => bif decide (o = 0) then (setO d a).bind fun x => (setO d b).bind fun y => bif decide (x &&& y = 0) then some (x ||| y) else none else none
 | _ + 1, .mk _ [_] => none
 | _ + 1, .mk _ (_ :: _ :: _ :: _) => none
theorem pow4 : ∀ o : Nat, o < 4 → 2 ^ o < 16 := by decide
theorem or16 : ∀ x : Nat, x < 16 → ∀ y : Nat, y < 16 → x ||| y < 16 := by decide +kernel
theorem bif_some {α : Type} {c : Bool} {a : Option α} {r : α} (h : (bif c then a else none) = some r) : c = true ∧ a = some r := by
 cases c with
 | true => exact ⟨rfl, h⟩
 | false => cases h
theorem zB1 {d : Nat} {o : Int} {l : List Tree} {m : Nat} (h : setO (d + 1) (.mk o l) = some m) :
 (l = [] ∧ 0 ≤ o ∧ o < 4 ∧ m = 2 ^ o.toNat) ∨ (∃ a b x y, l = [a, b] ∧ o = 0 ∧ setO d a = some x ∧ setO d b = some y ∧ x &&& y = 0 ∧ m = x ||| y) := by
 rcases l with _ | ⟨a, _ | ⟨b, _ | ⟨c, l⟩⟩⟩ <;> simp only [setO] at h
 ·obtain ⟨h1, h2⟩ := bif_some h
  simp only [Bool.and_eq_true, decide_eq_true_eq, Option.some.injEq] at h1 h2
  exact .inl ⟨rfl, h1.1, h1.2, h2.symm⟩
 ·cases h
 ·obtain ⟨h1, h2⟩ := bif_some h
  simp only [Option.bind_eq_some_iff, decide_eq_true_eq] at h1 h2
  obtain ⟨x, hx, y, hy, h3⟩ := h2
  obtain ⟨h4, h5⟩ := bif_some h3
  simp only [decide_eq_true_eq, Option.some.injEq] at h4 h5
  exact .inr ⟨a, b, x, y, rfl, h1, hx, hy, h4, h5.symm⟩
 ·cases h
theorem zAQ : ∀ (d : Nat) (t : Tree) (m : Nat), setO d t = some m → m < 16
 | 0, t, m, h => by simp [setO] at h
 | d + 1, ⟨o, l⟩, m, h => by
  rcases zB1 h with ⟨rfl, h0, h4, rfl⟩ | ⟨a, b, x, y, rfl, rfl, hx, hy, hxy, rfl⟩
  ·exact pow4 _ (by omega)
  ·exact or16 _ (zAQ d a x hx) _ (zAQ d b y hy)
theorem zYQ : ∀ x : Nat, x < 16 → ∀ y : Nat, y < 16 → IntKind.wrap .i64 (((BitVec.toNat (HOr.hOr (BitVec.ofInt 64 (x : Int)) (BitVec.ofInt 64 (y : Int)))) : Nat) : Int) = ((x ||| y : Nat) : Int) ∧
 ((IntKind.wrap .i64 (((BitVec.toNat (HAnd.hAnd (BitVec.ofInt 64 (x : Int)) (BitVec.ofInt 64 (y : Int)))) : Nat) : Int)) == (0 : Int)) = decide (x &&& y = 0) := by decide +kernel
theorem zYR : ∀ o : Nat, o < 4 → IntKind.wrap .i64 ((1 : Int) * (HPow.hPow (2 : Int) (Min.min (Int.toNat (bif (decide ((Int.tmod (o : Int) (4 : Int)) < (0 : Int))) then (0 : Int) else (Int.tmod (o : Int) (4 : Int)))) 64)) : Int) = ((2 ^ o : Nat) : Int) := by decide +kernel
theorem zUm : ∀ (d : Nat) (t : Tree), d < 1000 → ∃ n : Int, wc W zCZ [t.pv, .int .i64 (d : Int)] = some (.tup [.int .i64 n, .bool (setO d t).isSome]) ∧ ∀ m : Nat, setO d t = some m → n = m
 | 0, t, _ => by
  refine ⟨0, ?_, fun m h => by simp [setO] at h⟩
  rw [Tree.pv_eq, zLg]
  simp [zBY, setO]
 | d + 1, ⟨o, l⟩, hd => by
  have hne : ((((d + 1 : Nat) : Int)) == 0) = false := zER (by omega)
  have hw : IntKind.wrap .i64 ((((d + 1 : Nat) : Int)) - 1) = (d : Int) := by rw [zA3 (by omega) (by omega)]; omega
  rw [Tree.pv_mk, zLg, hne]
  rcases l with _ | ⟨a, _ | ⟨b, _ | ⟨c, l⟩⟩⟩
  ·have hc : decide ((bif (decide ((Int.tmod o (4 : Int)) < (0 : Int))) then (0 : Int) else (Int.tmod o (4 : Int))) < (0 : Int)) = false := by
    by_cases h : Int.tmod o 4 < 0
    ·simp [h]
    ·simp [h]
   simp only [cond_false, List.map_nil, List.length_nil, zBY, zKp, show ((((0 : Nat)) : Int) != (0 : Int)) = false from rfl, show ((((0 : Nat)) : Int) == (2 : Int)) = false from rfl, show ((((0 : Nat)) : Int) == (0 : Int)) = true from rfl, cond_true, hc, Option.bind_some, c_i64_mk, setO]
   by_cases h0 : 0 ≤ o
   ·by_cases h4 : o < 4
    ·obtain ⟨n, rfl⟩ := Int.eq_ofNat_of_zero_le h0
     refine ⟨_, by rw [decide_eq_true h0, decide_eq_true h4]; rfl, fun m h => ?_⟩
     rw [decide_eq_true h0, decide_eq_true h4] at h
     simp only [Bool.and_self, cond_true, Option.some.injEq, Int.toNat_natCast] at h; subst h
     exact zYR n (by omega)
    ·exact ⟨_, by rw [decide_eq_true h0, decide_eq_false h4]; rfl, fun m h => by rw [decide_eq_false h4, Bool.and_false] at h; cases h⟩
   ·exact ⟨_, by rw [decide_eq_false h0]; rfl, fun m h => by rw [decide_eq_false h0] at h; cases h⟩
  ·exact ⟨0, by simp [zBY, setO], fun m h => by simp [setO] at h⟩
  ·obtain ⟨x, hx, ex⟩ := zUm d a (by omega)
   obtain ⟨y, hy, ey⟩ := zUm d b (by omega)
   by_cases ho : o = 0
   ·subst ho
    simp only [cond_false, List.map_cons, List.map_nil, List.length_cons, List.length_nil, zBY, show ((((0 + 1 + 1 : Nat)) : Int) != (0 : Int)) = true from rfl, show ((((0 + 1 + 1 : Nat)) : Int) != (2 : Int)) = false from rfl,
     show ((((0 + 1 + 1 : Nat)) : Int) == (2 : Int)) = true from rfl, show ((((0 + 1 + 1 : Nat)) : Int) == (0 : Int)) = false from rfl, cond_true, bne_self_eq_false, List.getElem?_cons_zero, List.getElem?_cons_succ, Option.bind_some, Tree.c_mk, Tree.fold, hw, hx, hy, asTup_mk, c_i64_mk, c_b_mk]
    cases ha : setO d a with
    | none => exact ⟨_, by simp [setO, ha]; rfl, fun m h => by simp [setO, ha] at h⟩
    | some p =>
     cases hb : setO d b with
     | none => exact ⟨_, by simp [setO, ha, hb]; rfl, fun m h => by simp [setO, ha, hb] at h⟩
     | some q =>
      have := ex p ha; subst this
      have := ey q hb; subst this
      obtain ⟨h1, h2⟩ := zYQ p (zAQ d a p ha) q (zAQ d b q hb)
      refine ⟨((p ||| q : Nat) : Int), ?_, fun m h => ?_⟩
      ·simp only [Option.isSome_some, cond_true, h1, h2, setO, ha, hb, Option.bind_some, decide_true]
       cases decide (p &&& q = 0) <;> rfl
      ·simp only [setO, ha, hb, Option.bind_some, decide_true, cond_true] at h
       obtain ⟨_, h3⟩ := bif_some h
       simp only [Option.some.injEq] at h3; subst h3; rfl
   ·exact ⟨0, by simp [zBY, setO, ho, zNp ho], fun m h => by simp [setO, ho] at h⟩
  ·refine ⟨0, ?_, fun m h => by simp [setO] at h⟩
   have h1 : ((((a.pv :: b.pv :: c.pv :: l.map Tree.pv).length : Nat) : Int) != 0) = true := zNp (by simp; omega)
   have h2 : ((((a.pv :: b.pv :: c.pv :: l.map Tree.pv).length : Nat) : Int) != 2) = true := zNp (by simp; omega)
   simp only [List.map_cons, h1, h2, cond_true, cond_false, zBY]
   rfl
theorem zYg (t : Tree) : wc W zId [t.pv] = some (.bool (setO 4 t).isSome) := by
 have h := zRL t.occ (t.l.map Tree.pv)
 obtain ⟨n, h1, _⟩ := zUm 4 t (by omega)
 simp only [Tree.fold] at h
 rw [h]
 have h1' : wc W zCZ [t.pv, .int .i64 (4 : Int)] = some (.tup [.int .i64 n, .bool (setO 4 t).isSome]) := h1
 simp [h1']
theorem zUn (t : Tree) : wc W zDi [t.pv] = some (.int .i64 (((setO 4 t).getD 0 : Nat) : Int)) := by
 have h := zRH t.occ (t.l.map Tree.pv)
 obtain ⟨n, h1, h2⟩ := zUm 4 t (by omega)
 simp only [Tree.fold] at h
 rw [h]
 have h1' : wc W zCZ [t.pv, .int .i64 (4 : Int)] = some (.tup [.int .i64 n, .bool (setO 4 t).isSome]) := h1
 simp only [h1', Option.bind_some, asTup_mk, List.getElem?_cons_zero, List.getElem?_cons_succ, c_i64_mk, c_b_mk]
 cases hs : setO 4 t with
 | none => rfl
 | some m => simp [h2 m hs]
end Go.Cf

namespace Go.Cf
open Go Go.Ab
set_option linter.unusedVariables false
set_option linter.unusedSimpArgs false
theorem zWX (cols : List Int) (rows : List (List Val)) (hc : cols.length ≤ 4294967296) (hl : rows.length ≤ 4294967295) (hr : ∀ r ∈ rows, r.length ≤ 4294967296) (hv : ∀ r ∈ rows, ROk r) : wc W zDC [bagp cols rows, .slice 6 []] = some (bagp cols rows) := by
 have h := zVZ cols rows [] hc hl hr hv (by simp) (by simp)
 have e : rows.filter (zLL [] cols) = rows := List.filter_eq_self.2 fun _ _ => rfl
 rw [e] at h
 exact h
theorem zWY (T : List Def) (D : List (List (List Val))) (t o : Int) (hT : T.length ≤ 9223372036854775807) (hD : DOk D) (hv : ∀ t ∈ D, ∀ r ∈ t, ROk r) : wc W zKf [catp T, zGK D, .int .i64 t, .int .i64 o] = some (ofP (ofT T D t o)) := by
 have h := zSt (T.map Def.pv) (D.map tabp) t o
 rw [zAA, zA7] at h
 rw [h, zV0 T D hT hD]
 simp only [Option.bind_some, c_b_mk, List.length_map]
 unfold ofT
 have z : PV.tup [PV.agg [PV.slice 0 [], PV.slice 0 []], PV.bool false] = ofP none := rfl
 cases hf : fits T D with
 | false => rfl
 | true =>
  obtain ⟨f1, f2, f3⟩ := zJq hf
  have hlen : 1 ≤ T.length ∧ T.length ≤ 4 := by
   unfold mayC at f2
   simp only [Bool.and_eq_true, decide_eq_true_eq] at f2
   omega
  rw [zA3 (by omega) (by omega), w_in]
  simp only [Bool.not_true, cond_false, Option.bind_some, c_b_mk, Bool.true_and]
  by_cases ht : 0 ≤ t ∧ t ≤ (T.length : Int) - 1
  ·rw [decide_eq_true ht.1, decide_eq_true ht.2]
   simp only [Bool.and_self, Bool.not_true, cond_false, zWO, Option.bind_some, c_i64_mk, Bool.true_and]
   by_cases ho : 0 ≤ o ∧ o ≤ 3
   ·rw [decide_eq_true ho.1, decide_eq_true ho.2]
    have hc : colI o 0 = 4 * o := by
     unfold colI
     rw [decide_eq_true ho.1, decide_eq_true ho.2]
     simp
    rw [hc, zER (show 4 * o ≠ -1 by omega)]
    obtain ⟨m, rfl⟩ := Int.eq_ofNat_of_zero_le ht.1
    have hm : m < T.length := by omega
    have hmD : m < D.length := by omega
    obtain ⟨hc1, hc4⟩ := zGL f2 hm
    obtain ⟨r8, rr⟩ := zQJ (f3 m hmD) hc4
    obtain ⟨n, hn⟩ := Int.eq_ofNat_of_zero_le (show 0 ≤ zCu T m by omega)
    have hcA : T[m].Cols = (n : Int) := by
     have := hn; unfold zCu at this; rw [List.getElem?_eq_getElem hm] at this; exact this
    simp only [cond_false, zLI, zAM, cond_true, Int.toNat_natCast, List.getElem?_map, List.getElem?_eq_getElem hm, Option.map_some, Option.bind_some, Def.load0, c_i64_mk, hcA, Bool.and_self]
    have hloop := zTY o ho (m : Int) (D.map tabp) n (by omega) n 0 [] (by omega) (by simp)
    refine hloop.trans ?_
    rw [zGp]
    simp only [zCt, cond_false, zAM, cond_true, Int.toNat_natCast, List.getElem?_map, List.getElem?_eq_getElem hmD, Option.map_some, Option.bind_some, zKr, List.nil_append, zA, zAN, zAX]
    rw [zWX (zBl o 0 n) D[m] (by simp [zBl]; omega) (by omega) (fun r hr => by have := (rr r hr).2.1; omega) (fun r hr => hv _ (List.getElem_mem hmD) r hr)]
    simp only [hn, Int.toNat_natCast, List.getD_eq_getElem?_getD, List.getElem?_eq_getElem hmD, Option.getD_some]
    rfl
   ·have hb : (decide (0 ≤ o) && decide (o ≤ 3)) = false := by rw [← Bool.decide_and]; exact decide_eq_false ho
    have hc : colI o 0 = -1 := by unfold colI; rw [hb]; rfl
    rw [hc, hb]; rfl
  ·have hb : (decide (0 ≤ t) && decide (t ≤ (T.length : Int) - 1)) = false := by rw [← Bool.decide_and]; exact decide_eq_false ht
   rw [hb]; rfl
structure QT where
 (T : List Def) (D : List (List (List Val))) (occ : List Int) (P : List Ex)
def QT.leaf (q : QT) (o : Nat) : List (List Val) := q.D.getD (q.occ.getD o 0).toNat []
def zU (q : QT) : Nat → Tree → List Int × List (List Val)
 | 0, _ => ([], [])
 | _ + 1, .mk o [] => (zW q.T q.occ o.toNat, (q.leaf o.toNat).filter (zLL (exQ q.P (zGM q.P (zK (2 ^ o.toNat)))) (zW q.T q.occ o.toNat)))
 | d + 1, .mk _ [x, y] => ((zU q d x).1 ++ (zU q d y).1, (zAz (zU q d x).2 (zU q d y).2).filter (zLL (exQ q.P (newQ q.P ((setO d x).getD 0) ((setO d y).getD 0))) ((zU q d x).1 ++ (zU q d y).1)))
 | _ + 1, .mk _ [_] => ([], [])
 | _ + 1, .mk _ (_ :: _ :: _ :: _) => ([], [])
theorem zEJ : ∀ (d : Nat) (t : Tree) (m : Nat), setO d t = some m → setO (d + 1) t = some m
 | 0, t, m, h => by simp [setO] at h
 | d + 1, .mk o l, m, h => by
  rcases zB1 h with ⟨rfl, h1, h2, rfl⟩ | ⟨a, b, x, y, rfl, rfl, hx, hy, h4, rfl⟩
  ·simp [setO, h1, h2]
  ·simp only [setO, zEJ d a x hx, zEJ d b y hy, Option.bind_some, decide_eq_true h4, decide_true, cond_true]
theorem zGN {d : Nat} {t : Tree} {m : Nat} (h : setO d t = some m) : ∀ k, setO (d + k) t = some m
 | 0 => h
 | k + 1 => zEJ _ _ _ (zGN h k)
def cntS (m : Nat) : Nat := ((List.range 4).filter fun i => m.testBit i).length
theorem zMc : ∀ x : Nat, x < 16 → ∀ y : Nat, y < 16 → x &&& y = 0 → cntS (x ||| y) = cntS x + cntS y := by decide +kernel
theorem zPY : ∀ x : Nat, x < 16 → cntS x ≤ 4 := by decide +kernel
theorem zMd : ∀ o : Nat, o < 4 → cntS (2 ^ o) = 1 := by decide +kernel
theorem zOB : ∀ x : Nat, x < 16 → ∀ y : Nat, y < 16 → ∀ i : Nat, i < 4 → (x ||| y).testBit i = (x.testBit i || y.testBit i) := by decide +kernel
theorem zMe : ∀ x : Nat, x < 16 → ∀ y : Nat, y < 16 → x &&& y = 0 → ∀ i : Nat, i < 4 → ¬ (x.testBit i = true ∧ y.testBit i = true) := by decide +kernel
theorem zT1 : ∀ o : Nat, o < 4 → (2 ^ o).testBit o = true := by decide
structure RT (q : QT) (m : Nat) (b : List Int × List (List Val)) : Prop where
 cols : ∀ c ∈ b.1, 0 ≤ c ∧ c ≤ 15 ∧ m.testBit (c / 4).toNat = true
 nodup : b.1.Nodup
 rows : ∀ r ∈ b.2, r.length = b.1.length ∧ r.all mayV = true ∧ ROk r
 len : b.2.length ≤ 8 ^ cntS m
theorem RT.may {q : QT} {m : Nat} {b : List Int × List (List Val)} (h : RT q m b) (hm : m < 16) : mayB b.1 b.2 = true := by
 have h8 : 8 ^ cntS m ≤ 8 ^ 4 := Nat.pow_le_pow_right (by omega) (zPY m hm)
 unfold mayB
 simp only [Bool.and_eq_true, decide_eq_true_eq, List.all_eq_true]
 refine ⟨⟨(zKs _).2 ⟨fun c hc => ⟨(h.cols c hc).1, (h.cols c hc).2.1⟩, h.nodup⟩, fun r hr => ?_⟩, by have := h.len; omega⟩
 unfold rowB
 simp only [Bool.and_eq_true, decide_eq_true_eq]
 exact ⟨(h.rows r hr).1, (h.rows r hr).2.1⟩
theorem RT.join {q : QT} {x y : Nat} {a b : List Int × List (List Val)} (ha : RT q x a) (hb : RT q y b) (hx : x < 16) (hy : y < 16) (hxy : x &&& y = 0) (f : List Val → Bool) : RT q (x ||| y) (a.1 ++ b.1, (zAz a.2 b.2).filter f) where
 cols := fun c hc => by
  rcases List.mem_append.1 hc with hc | hc
  ·obtain ⟨h1, h2, h3⟩ := ha.cols c hc
   exact ⟨h1, h2, by rw [zOB _ hx _ hy _ (by omega), h3]; rfl⟩
  ·obtain ⟨h1, h2, h3⟩ := hb.cols c hc
   exact ⟨h1, h2, by rw [zOB _ hx _ hy _ (by omega), h3, Bool.or_true]⟩
 nodup := List.nodup_append.2 ⟨ha.nodup, hb.nodup, fun c hc d hd e => by
  subst e
  obtain ⟨h1, h2, h3⟩ := ha.cols c hc
  exact zMe _ hx _ hy hxy _ (by omega) ⟨h3, (hb.cols c hd).2.2⟩⟩
 rows := fun r hr => by
  have hr2 := (List.mem_filter.1 hr).1
  unfold zAz at hr2
  obtain ⟨u, hu, hr3⟩ := List.mem_flatMap.1 hr2
  obtain ⟨v, hv, rfl⟩ := List.mem_map.1 hr3
  obtain ⟨a1, a2, a3⟩ := ha.rows u hu
  obtain ⟨b1, b2, b3⟩ := hb.rows v hv
  refine ⟨by simp [a1, b1], by rw [List.all_append, a2, b2]; rfl, fun z hz => ?_⟩
  rcases List.mem_append.1 hz with h | h
  ·exact a3 z h
  ·exact b3 z h
 len := by
  have h1 := List.length_filter_le f (zAz a.2 b.2)
  rw [zIE] at h1
  rw [zMc _ hx _ hy hxy, Nat.pow_add]
  exact Nat.le_trans h1 (Nat.mul_le_mul ha.len hb.len)
theorem RT.leaf {q : QT} (hf : fits q.T q.D = true) (hv : ∀ t ∈ q.D, ∀ r ∈ t, ROk r) {o : Nat} (ho : o < 4) (ht : 0 ≤ q.occ.getD o 0 ∧ q.occ.getD o 0 < (q.T.length : Int)) (f : List Val → Bool) : RT q (2 ^ o) (zW q.T q.occ o, (q.leaf o).filter f) := by
 obtain ⟨f1, f2, f3⟩ := zJq hf
 obtain ⟨m, hm⟩ := Int.eq_ofNat_of_zero_le ht.1
 have hmT : m < q.T.length := by omega
 have hmD : m < q.D.length := by omega
 obtain ⟨hc1, hc4⟩ := zGL f2 hmT
 obtain ⟨r8, rr⟩ := zQJ (f3 m hmD) hc4
 obtain ⟨n, hn⟩ := Int.eq_ofNat_of_zero_le (show 0 ≤ zCu q.T m by omega)
 have el : q.leaf o = q.D[m] := by unfold QT.leaf; rw [hm, Int.toNat_natCast, List.getD_eq_getElem?_getD, List.getElem?_eq_getElem hmD]; rfl
 have ec : zW q.T q.occ o = zBl (o : Int) 0 n := by unfold zW; rw [hm, Int.toNat_natCast, hn, Int.toNat_natCast]
 rw [el, ec]
 refine ⟨fun c hc => ?_, ?_, fun r hr => ?_, ?_⟩
 ·unfold zBl at hc
  obtain ⟨i, hi, rfl⟩ := List.mem_map.1 hc
  have := List.mem_range'_1.1 hi
  refine ⟨by omega, by omega, ?_⟩
  rw [show ((4 * (o : Int) + (i : Int)) / 4).toNat = o by omega]
  exact zT1 o ho
 ·unfold zBl
  exact List.pairwise_map.2 ((List.nodup_range' (s := 0) (n := n)).imp fun {a b} h e => h (by omega))
 ·have hr2 := (List.mem_filter.1 hr).1
  obtain ⟨h1, h2, h3⟩ := rr r hr2
  exact ⟨by rw [zIs]; omega, h3, hv _ (List.getElem_mem hmD) r hr2⟩
 ·have h1 := List.length_filter_le f q.D[m]
  show (q.D[m].filter f).length ≤ _
  rw [zMd o ho, Nat.pow_one]
  omega
theorem zE8 {q : QT} (hf : fits q.T q.D = true) (hv : ∀ t ∈ q.D, ∀ r ∈ t, ROk r) (hocc : q.occ.length ≤ 4) (hin : ∀ t ∈ q.occ, 0 ≤ t ∧ t < (q.T.length : Int)) : ∀ (d : Nat) (t : Tree) (m : Nat), setO d t = some m → m < 2 ^ q.occ.length → RT q m (zU q d t)
 | 0, t, m, h, _ => by simp [setO] at h
 | d + 1, .mk o l, m, h, hm => by
  rcases zB1 h with ⟨rfl, h1, h2, rfl⟩ | ⟨a, b, x, y, rfl, rfl, hx, hy, h4, rfl⟩
  ·obtain ⟨n, rfl⟩ := Int.eq_ofNat_of_zero_le h1
   simp only [zU, Int.toNat_natCast] at hm ⊢
   have hno : n < q.occ.length := (Nat.pow_lt_pow_iff_right (by omega)).1 hm
   have hg : q.occ.getD n 0 = q.occ[n] := by rw [List.getD_eq_getElem?_getD, List.getElem?_eq_getElem hno]; rfl
   exact RT.leaf hf hv (by omega) (by rw [hg]; exact hin _ (List.getElem_mem hno)) _
  ·have hle1 : x ≤ x ||| y := Nat.left_le_or
   have hle2 : y ≤ x ||| y := Nat.right_le_or
   exact RT.join (zE8 hf hv hocc hin d a x hx (by omega)) (zE8 hf hv hocc hin d b y hy (by omega)) (zAQ _ _ _ hx) (zAQ _ _ _ hy) h4 _
def zLM (q : QT) (Q : PV) : Ob := .var false 0 (.fnv zF [] [.pv (.imm 2 (catp q.T) 0), .pv (.imm 2 (zGK q.D) 0), .pv (.imm 7 Q 0), .own 0 0])
theorem zGd (q : QT) (Q : PV) : Ob.var false 0 (.fnv zF [] [.pv (.imm 2 (catp q.T) 0), .pv (.imm 2 (zGK q.D) 0), .pv (.imm 7 Q 0), .own 0 0]) = zLM q Q := rfl
theorem zPZ (q : QT) (by_ : Int) (sums out : List Int) (ord : Int) (z : PV) {R : Type} (K : PV → List PV → List PV → List PV → List PV → Int → List PV → List PV → Int → Option R) :
 zG9 (.pv z, [zLM q (zBm q.occ (q.P.map Ex.pv) by_ sums out ord)]) K = K z (q.T.map Def.pv) (q.D.map tabp) (q.occ.map intp) (q.P.map Ex.pv) by_ (sums.map intp) (out.map intp) ord := rfl
theorem zV2 (c : List Int) (r : List (List Val)) : wc W zEY [bagp c r, .bool true] = some (bagp c r) := by
 have h := zNe (c.map intp) (r.map rowp) true
 rw [zA, zAN, zAX] at h
 exact h
structure QOk (q : QT) : Prop where
 fits : fits q.T q.D = true
 vals : ∀ t ∈ q.D, ∀ r ∈ t, ROk r
 occ : q.occ.length ≤ 4
 inT : ∀ t ∈ q.occ, 0 ≤ t ∧ t < (q.T.length : Int)
 T : q.T.length ≤ 9223372036854775807
 D : DOk q.D
 P : q.P.length ≤ 1000000
 ok : ∀ e ∈ q.P, e.ok ∧ e.vals
theorem zWZ {P : List Ex} {idx : List Nat} {e : Ex} (h : e ∈ exQ P idx) : e ∈ P := by
 unfold exQ at h
 obtain ⟨i, _, hi⟩ := List.mem_filterMap.1 h
 exact List.mem_of_getElem? hi
theorem zW0 (P : List Ex) (idx : List Nat) : (exQ P idx).length ≤ idx.length := List.length_filterMap_le _ _
theorem zKy (P : List Ex) (f : Nat → Bool) : (zGM P f).length ≤ P.length := by
 have := List.length_filter_le (fun j => (P[j]?).any fun e => f (setE e)) (List.range' 0 P.length)
 rw [List.length_range'] at this
 exact this
theorem zT2 {q : QT} (hq : QOk q) (idx : List Nat) (hi : idx.length ≤ 1000000) {m : Nat} {b : List Int × List (List Val)} (c : List Int) (r : List (List Val)) (hc : c.length ≤ 16) (hr : r.length ≤ 5000) (hl : ∀ x ∈ r, x.length ≤ 16 ∧ ROk x) :
 wc W zDC [bagp c r, exsp (exQ q.P idx)] = some (bagp c (r.filter (zLL (exQ q.P idx) c))) := by
 have := zW0 q.P idx
 exact zVZ c r _ (by omega) (by omega) (fun x hx => by have := (hl x hx).1; omega) (fun x hx => (hl x hx).2) (by omega) (fun e he => hq.ok e (zWZ he))
@[simp] theorem zV3 (l : List Ex) {R : Type} (f : List PV → Option R) : c_s6 (exsp l) f = f (l.map Ex.pv) := rfl
theorem zP0 {q : QT} (hq : QOk q) (by_ : Int) (sums out : List Int) (ord : Int) : ∀ (d : Nat) (t : Tree) (m : Nat), d ≤ 4 → setO d t = some m → m < 2 ^ q.occ.length →
 W zF false [.pv t.pv, .pv (.imm 2 (catp q.T) 0), .pv (.imm 2 (zGK q.D) 0), .pv (.imm 7 (zBm q.occ (q.P.map Ex.pv) by_ sums out ord) 0), .own 0 0] [zLM q (zBm q.occ (q.P.map Ex.pv) by_ sums out ord)] =
  some (.pv (bagp (zU q d t).1 (zU q d t).2), [zLM q (zBm q.occ (q.P.map Ex.pv) by_ sums out ord)])
 | 0, t, m, _, h, _ => by simp [setO] at h
 | d + 1, .mk o l, m, hd, h, hm => by
  have hok : ∀ e ∈ q.P, e.ok := fun e he => (hq.ok e he).1
  have hset := zGN h (4 - (d + 1))
  rw [show d + 1 + (4 - (d + 1)) = 4 by omega] at hset
  have hws := zUn (.mk o l)
  rw [hset, Option.getD_some] at hws
  have hme := zE8 hq.fits hq.vals hq.occ hq.inT (d + 1) (.mk o l) m h hm
  have hmm := zAQ _ _ _ h
  have e := zHT o (l.map Tree.pv) (q.T.map Def.pv) (q.D.map tabp) (q.occ.map intp) (q.P.map Ex.pv) by_ (sums.map intp) (out.map intp) ord (q.T.map Def.pv) (q.D.map tabp) (q.occ.map intp) (q.P.map Ex.pv) by_ (sums.map intp) (out.map intp) ord
  rw [← Tree.pv_mk] at e
  simp only [zAA, zA7, zA, zAH, zGd] at e
  refine e.trans ?_
  rcases zB1 h with ⟨rfl, h1, h2, rfl⟩ | ⟨a, b, x, y, rfl, rfl, hx, hy, h4, rfl⟩
  ·obtain ⟨n, rfl⟩ := Int.eq_ofNat_of_zero_le h1
   simp only [Int.toNat_natCast] at hm hws hmm hme
   have hno : n < q.occ.length := (Nat.pow_lt_pow_iff_right (by omega)).1 hm
   have hg : q.occ.getD n 0 = q.occ[n] := by rw [List.getD_eq_getElem?_getD, List.getElem?_eq_getElem hno]; rfl
   have hin := hq.inT _ (List.getElem_mem hno)
   have hof := zWY q.T q.D q.occ[n] (n : Int) hq.T hq.D hq.vals
   have e1 : ofT q.T q.D q.occ[n] (n : Int) = some (zW q.T q.occ n, q.leaf n) := by
    unfold ofT
    rw [hq.fits, decide_eq_true hin.1, decide_eq_true (show q.occ[n] ≤ (q.T.length : Int) - 1 by omega), decide_eq_true (show (0 : Int) ≤ n by omega), decide_eq_true (show (n : Int) ≤ 3 by omega)]
    unfold zW QT.leaf
    rw [hg]; rfl
   rw [e1] at hof
   have hall := RT.leaf (q := q) hq.fits hq.vals (o := n) (by omega) (by rw [hg]; exact hin) (fun _ => true)
   rw [List.filter_eq_self.2 (fun _ _ => rfl)] at hall
   have hmay := hall.may (zR5 n (by omega))
   obtain ⟨m1, m2, m3⟩ := zCl hmay
   have hown := zYe q.occ q.P by_ sums out ord (2 ^ n) (zR5 n (by omega)) hq.P hok
   have hmo := zOA q.occ q.P by_ sums out ord (zGM q.P (zK (2 ^ n))) (fun i hi => zQO hi) (by have := zKy q.P (zK (2 ^ n)); have := hq.P; omega)
   have hk := zT2 hq (zGM q.P (zK (2 ^ n))) (by have := zKy q.P (zK (2 ^ n)); have := hq.P; omega) (m := 0) (b := ([], [])) (zW q.T q.occ n) (q.leaf n) m1 m2 (fun x hx => ⟨by rw [(m3 x hx).1]; exact m1, (hall.rows x hx).2.2⟩)
   have hz : (((0 : Nat) : Int) == (0 : Int)) = true := rfl
   simp only [List.map_nil, List.length_nil, hz, zV3, zGJ, beq_self_eq_true, cond_true, zAM, Int.toNat_natCast, List.getElem?_map, List.getElem?_eq_getElem hno, Option.map_some, Option.bind_some, zGq, hof, ofP, asTup_mk, List.getElem?_cons_zero, List.getElem?_cons_succ, zIB, c_b_mk, zA, zAN, zAX, zV2, hws, c_i64_mk, hown, zDY, hmo, hk, zU]
  ·have hle1 : x ≤ x ||| y := Nat.left_le_or
   have hle2 : y ≤ x ||| y := Nat.right_le_or
   have hxl := zAQ _ _ _ hx
   have hyl := zAQ _ _ _ hy
   have ih1 := zP0 hq by_ sums out ord d a x (by omega) hx (by omega)
   have ih2 := zP0 hq by_ sums out ord d b y (by omega) hy (by omega)
   have ra := zE8 hq.fits hq.vals hq.occ hq.inT d a x hx (by omega)
   have rb := zE8 hq.fits hq.vals hq.occ hq.inT d b y hy (by omega)
   have hsa := zUn a
   have hsb := zUn b
   have sa := zGN hx (4 - d)
   have sb := zGN hy (4 - d)
   rw [show d + (4 - d) = 4 by omega] at sa sb
   rw [sa, Option.getD_some] at hsa
   rw [sb, Option.getD_some] at hsb
   have rj := ra.join rb hxl hyl h4 (fun _ => true)
   rw [List.filter_eq_self.2 (fun _ _ => rfl)] at rj
   have hmj := rj.may hmm
   obtain ⟨m1, m2, m3⟩ := zCl hmj
   have hma := ra.may hxl
   have hmb := rb.may hyl
   obtain ⟨a1, a2, a3⟩ := zCl hma
   obtain ⟨b1, b2, b3⟩ := zCl hmb
   have hcr := zWL (zU q d a).1 (zU q d a).2 (zU q d b).1 (zU q d b).2 (by omega) (by omega) (by omega) (fun z hz => by rw [(a3 z hz).1]; omega) (fun z hz => by rw [(b3 z hz).1]; omega)
   have e2 : zQH (zU q d a).1 (zU q d a).2 (zU q d b).1 (zU q d b).2 = some ((zU q d a).1 ++ (zU q d b).1, zAz (zU q d a).2 (zU q d b).2) := by
    unfold zQH
    have h5 : mayB ((zU q d a).1 ++ (zU q d b).1) [] = true := by
     unfold mayB at hmj ⊢
     simp only [Bool.and_eq_true] at hmj
     rw [hmj.1.1]; rfl
    rw [hma, hmb, h5, decide_eq_true (show (zU q d a).2.length * (zU q d b).2.length ≤ 5000 by rw [← zIE]; exact m2)]
    rfl
   rw [e2] at hcr
   have hnw := zYf q.occ q.P by_ sums out ord x y hxl hyl hq.P hok
   have hnl : (newQ q.P x y).length ≤ 1000000 := by have := zKy q.P (newF x y); have := hq.P; unfold newQ; omega
   have hmo := zOA q.occ q.P by_ sums out ord (newQ q.P x y) (fun i hi => zQO hi) hnl
   have hk := zT2 hq (newQ q.P x y) hnl (m := 0) (b := ([], [])) ((zU q d a).1 ++ (zU q d b).1) (zAz (zU q d a).2 (zU q d b).2) m1 m2 (fun z hz => ⟨by rw [(m3 z hz).1]; exact m1, (rj.rows z hz).2.2⟩)
   have hz : (((0 + 1 + 1 : Nat) : Int) == (0 : Int)) = false := rfl
   simp only [List.map_nil, List.map_cons, List.length_cons, List.length_nil, hz, cond_false, List.getElem?_cons_zero, List.getElem?_cons_succ, Option.bind_some, Tree.c_mk, Tree.fold, ih1, zPZ, zAA, zA7, zA, zAH, zGd, zMt, cond_true, zIB, ih2, zAN, zAX, hcr, bagR, asTup_mk, c_b_mk, zV2, hsa, hsb, c_i64_mk, hnw, zDY, hmo, zV3, zGJ, hk, zU, hx, hy, Option.getD_some]
   have ee : eqOw [zLM q (.agg [zAs q.occ, exsp q.P, .int .i64 by_, zAs sums, zAs out, .int .i64 ord]), .var false 3 (.agg [.nil 0, .nil 0])] [zLM q (zBm q.occ (q.P.map Ex.pv) by_ sums out ord), .var false 3 (.agg [.nil 0, .nil 0])] = true := zMt _
   simp only [ee, cond_true]
end Go.Cf

namespace Go.Cf
open Go Go.Ab
set_option linter.unusedVariables false
set_option linter.unusedSimpArgs false
theorem zW1 {q : QT} (hq : QOk q) (by_ : Int) (sums out : List Int) (ord : Int) (t : Tree) (m : Nat) (h : setO 4 t = some m) (hm : m < 2 ^ q.occ.length) :
 W zFs false [.fnv zBO [] [.own 0 0, .pv (.imm 3 t.pv 0)]] [zLM q (zBm q.occ (q.P.map Ex.pv) by_ sums out ord)] =
  some (.pv (.tup [bagp (zU q 4 t).1 (zU q 4 t).2, .bool true]), [zLM q (zBm q.occ (q.P.map Ex.pv) by_ sums out ord)]) := by
 have e := zHU t.occ (t.l.map Tree.pv) (q.T.map Def.pv) (q.D.map tabp) (q.occ.map intp) (q.P.map Ex.pv) by_ (sums.map intp) (out.map intp) ord
 have h1 := zP0 hq by_ sums out ord 4 t m (by omega) h hm
 simp only [Tree.fold, zAA, zA7, zA, zAH, zGd] at e
 rw [h1] at e
 simp only [Option.bind_some, zPZ, zIB, zAA, zA7, zA, zAN, zAX] at e
 have e2 : W zBO false [.own 0 0, .pv (.imm 3 t.pv 0)] [zLM q (zBm q.occ (q.P.map Ex.pv) by_ sums out ord)] = some (.pv (bagp (zU q 4 t).1 (zU q 4 t).2), [zLM q (zBm q.occ (q.P.map Ex.pv) by_ sums out ord)]) := e
 rw [zNb]
 unfold zSm
 have hg : [zHk, zBO].contains zBO = true := by decide
 have hsh : (bagp (zU q 4 t).1 (zU q 4 t).2).okSh 3 = true := rfl
 simp only [hg, cond_true, List.nil_append, e2, Option.bind_some, hsh]
def zUo (q : QT) (may : Bool) (t : Tree) : Option (List Int × List (List Val)) :=
 match setO 4 t with
 | none => none
 | some m => bif may && fits q.T q.D && decide (m < 2 ^ q.occ.length) then some (zU q 4 t) else none
theorem zYh : ∀ m : Nat, m < 16 → ∀ n : Nat, n < 5 → decide (Int.fdiv (m : Int) (HPow.hPow (2 : Int) (Min.min (Int.toNat (n : Int)) 64)) > 0) = !decide (m < 2 ^ n) := by decide +kernel
theorem zYS (q : QT) (by_ : Int) (sums out : List Int) (ord : Int) (t : Tree) (hT : q.T.length ≤ 9223372036854775807) (hocc : q.occ.length ≤ 9223372036854775807) (hP : q.P.length ≤ 1000000) (hok : ∀ e ∈ q.P, e.ok ∧ e.vals) (hs : sums.length ≤ 4294967296) (ho : out.length ≤ 4294967296)
 (hD : DOk q.D) (hv : ∀ t ∈ q.D, ∀ r ∈ t, ROk r) :
 wc W zBG [catp q.T, zGK q.D, zBm q.occ (q.P.map Ex.pv) by_ sums out ord, t.pv] = some (bagR (zUo q (mayQ q.T q.occ q.P by_ sums out ord) t)) := by
 have h := zNd (q.T.map Def.pv) (q.D.map tabp) (q.occ.map intp) (q.P.map Ex.pv) by_ (sums.map intp) (out.map intp) ord t.occ (t.l.map Tree.pv)
 simp only [Tree.fold, zAA, zA7, zA, zAH] at h
 refine h.trans ?_
 have e0 : PV.tup [PV.agg [PV.slice 0 [], PV.slice 0 []], PV.bool false] = bagR none := rfl
 rw [zPW q.T q.occ q.P by_ sums out ord hT hocc (by omega) (fun e he => (hok e he).1) hs ho, zV0 q.T q.D hT hD, zYg t, zUn t]
 simp only [Option.bind_some, c_b_mk, c_i64_mk, List.length_map]
 unfold zUo
 cases h1 : mayQ q.T q.occ q.P by_ sums out ord with
 | false => cases setO 4 t <;> rfl
 | true =>
 cases h2 : fits q.T q.D with
 | false => cases setO 4 t <;> rfl
 | true =>
 cases h3 : setO 4 t with
 | none => rfl
 | some m =>
  have hm16 := zAQ _ _ _ h3
  have hparts := h1
  unfold mayQ at hparts
  simp only [Bool.and_eq_true, decide_eq_true_eq, List.all_eq_true] at hparts
  have hocc4 : q.occ.length ≤ 4 := hparts.1.1.1.1.2
  have hin : ∀ t ∈ q.occ, 0 ≤ t ∧ t < (q.T.length : Int) := hparts.1.1.1.2
  simp only [Bool.not_true, cond_false, Option.isSome_some, Option.getD_some, zYh m hm16 q.occ.length (by omega), Bool.true_and]
  cases h4 : decide (m < 2 ^ q.occ.length) with
  | false => rfl
  | true =>
   simp only [Bool.not_true, cond_false, cond_true, zIk]
   have hq : QOk q := ⟨h2, hv, hocc4, hin, hT, hD, hP, hok⟩
   have h5 := zW1 hq by_ sums out ord t m h3 (of_decide_eq_true h4)
   simp only [Tree.fold, zAA, zA7, zA, zAH, zGd, h5, Option.bind_some, zPZ, asTup_mk, List.getElem?_cons_zero, List.getElem?_cons_succ, zIB, c_b_mk, zAN, zAX]
   rfl
theorem zUp : ∀ n : Nat, n < 4 → ∀ o : Nat, o < 4 → ((2 ^ n).testBit o = true ↔ o = n) := by decide
theorem zIF (q : QT) : ∀ (d : Nat) (t : Tree) (m : Nat), setO d t = some m → ∀ c, c ∈ (zU q d t).1 ↔ ∃ o, o < 4 ∧ m.testBit o = true ∧ c ∈ zW q.T q.occ o
 | 0, t, m, h, c => by simp [setO] at h
 | d + 1, .mk o l, m, h, c => by
  rcases zB1 h with ⟨rfl, h1, h2, rfl⟩ | ⟨a, b, x, y, rfl, rfl, hx, hy, h4, rfl⟩
  ·obtain ⟨n, rfl⟩ := Int.eq_ofNat_of_zero_le h1
   simp only [zU, Int.toNat_natCast]
   constructor
   ·intro hc; exact ⟨n, by omega, zT1 n (by omega), hc⟩
   ·rintro ⟨o, ho, hb, hc⟩
    rw [(zUp n (by omega) o ho).1 hb] at hc; exact hc
  ·simp only [zU, List.mem_append, zIF q d a x hx c, zIF q d b y hy c]
   have hxl := zAQ _ _ _ hx
   have hyl := zAQ _ _ _ hy
   constructor
   ·rintro (⟨o, ho, hb, hc⟩ | ⟨o, ho, hb, hc⟩)
    ·exact ⟨o, ho, by rw [zOB _ hxl _ hyl o ho, hb]; rfl, hc⟩
    ·exact ⟨o, ho, by rw [zOB _ hxl _ hyl o ho, hb, Bool.or_true], hc⟩
   ·rintro ⟨o, ho, hb, hc⟩
    rw [zOB _ hxl _ hyl o ho, Bool.or_eq_true] at hb
    rcases hb with hb | hb
    ·exact .inl ⟨o, ho, hb, hc⟩
    ·exact .inr ⟨o, ho, hb, hc⟩
theorem zQP (T : List Def) (occ : List Int) (is : Nat → Bool) (k i : Nat) (c : Int) : c ∈ allL T occ is i k ↔ ∃ o, i ≤ o ∧ o < i + k ∧ is o = true ∧ zH0 T occ o = true ∧ c ∈ zW T occ o := by
 unfold allL
 simp only [List.mem_flatMap, List.mem_range'_1]
 constructor
 ·rintro ⟨o, ⟨h1, h2⟩, h3⟩
  cases hb : is o && zH0 T occ o with
  | false => rw [hb] at h3; cases h3
  | true =>
   rw [hb] at h3
   simp only [Bool.and_eq_true] at hb
   exact ⟨o, h1, h2, hb.1, hb.2, h3⟩
 ·rintro ⟨o, h1, h2, h3, h4, h5⟩
  exact ⟨o, ⟨h1, h2⟩, by rw [h3, h4]; exact h5⟩
end Go.Cf

namespace Go.Cf
open Go Go.Ab
set_option linter.unusedVariables false
set_option linter.unusedSimpArgs false
theorem zR7 {c d : List Int} {x : Int} (h : inC c x = true) : idxI (c ++ d) (fun y => x == y) = idxI c (fun y => x == y) := by
 have h0 : c.any (fun y => x == y) = true := by
  unfold inC at h
  exact List.any_eq_true.2 ⟨x, of_decide_eq_true h, by simp⟩
 unfold idxI
 rw [List.findIdx?_append]
 cases hf : c.findIdx? (fun y => x == y) with
 | some i => rfl
 | none =>
  have := List.findIdx?_eq_none_iff.1 hf
  obtain ⟨y, hy, e⟩ := List.any_eq_true.1 h0
  rw [this y hy] at e; cases e
theorem zEK {c d : List Int} {r s : List Val} {x : Int} (h : inC c x = true) (hl : r.length = c.length) : zCc (c ++ d) (r ++ s) x = zCc c r x := by
 have h1 := (zGc h hl)
 have h3 := zQD c x
 have h4 : decide (idxI c (fun y => x == y) < 0) = false := by rw [zIp, h]; rfl
 have hlt : (idxI c (fun y => x == y)).toNat < r.length := by omega
 unfold zCc
 rw [zR7 h, h4, decide_eq_false (show ¬ idxI c (fun y => x == y) ≥ (r.length : Int) by omega), decide_eq_false (show ¬ idxI c (fun y => x == y) ≥ ((r ++ s).length : Int) by rw [List.length_append]; omega)]
 simp only [cond_false, List.getD_eq_getElem?_getD, List.getElem?_append_left hlt]
theorem zP1 {c d : List Int} {x : Int} (h : inC c x = false) (hd : inC d x = true) : idxI (c ++ d) (fun y => x == y) = (c.length : Int) + idxI d (fun y => x == y) := by
 unfold idxI
 rw [List.findIdx?_append]
 have h1 : c.findIdx? (fun y => x == y) = none := by
  rw [List.findIdx?_eq_none_iff]
  intro y hy
  unfold inC at h
  have := of_decide_eq_false h
  simp only [beq_eq_false_iff_ne]
  intro e; subst e; exact this hy
 rw [h1]
 have h2 : decide (idxI d (fun y => x == y) < 0) = false := by rw [zIp, hd]; rfl
 have h3 := of_decide_eq_false h2
 unfold idxI at h3
 cases hf : d.findIdx? (fun y => x == y) with
 | none => rw [hf] at h3; simp only at h3; omega
 | some i => simp only [Option.none_or, Option.map_some]; omega
theorem zC7 {c d : List Int} {r s : List Val} {x : Int} (h : inC c x = false) (hd : inC d x = true) (hl : r.length = c.length) (hs : s.length = d.length) : zCc (c ++ d) (r ++ s) x = zCc d s x := by
 have hin : inC (c ++ d) x = true := by
  unfold inC at hd ⊢
  exact decide_eq_true (List.mem_append_right _ (of_decide_eq_true hd))
 obtain ⟨h1, h2⟩ := zGc (row := r ++ s) hin (by simp [hl, hs])
 obtain ⟨h3, h4⟩ := zGc (row := s) hd hs
 rw [zP1 h hd] at h1
 have e : ((c.length : Int) + idxI d (fun y => x == y)).toNat = r.length + (idxI d (fun y => x == y)).toNat := by omega
 rw [e, List.getElem?_append_right (by omega), Nat.add_sub_cancel_left, h3] at h1
 exact (Option.some.inj h1).symm
theorem zYT : ∀ s : Nat, s < 16 → ∀ o : Nat, o < 4 → ∀ i : Nat, i < 4 → (s ||| 2 ^ o).testBit i = (s.testBit i || decide (i = o)) := by decide +kernel
theorem zMf : ∀ (l : List Int) (s : Nat) (i : Nat), s < 16 → i < 4 → (s.testBit i = true ∨ ∃ c ∈ l, occI c = i) → (setC s l).testBit i = true
 | [], s, i, hs, hi, h => by
  rcases h with h | ⟨c, hc, _⟩
  ·exact h
  ·cases hc
 | c :: r, s, i, hs, hi, h => by
  have h4 := zEg c
  refine zMf r _ i (zR6 _ hs _ (zR5 _ h4)) hi ?_
  rw [zYT _ hs _ h4 _ hi]
  rcases h with h | ⟨c', hc, e⟩
  ·exact .inl (by rw [h]; rfl)
  ·rcases List.mem_cons.1 hc with rfl | hc
   ·exact .inl (by rw [decide_eq_true e.symm, Bool.or_true])
   ·exact .inr ⟨c', hc, e⟩
theorem zQQ : ∀ m : Nat, m < 16 → ∀ s : Nat, s < 16 → m &&& s = s → ∀ o : Nat, o < 4 → s.testBit o = true → m.testBit o = true := by decide +kernel
def zGr (q : QT) (e : Ex) : Prop := ∀ c ∈ zFb e, c ∈ zW q.T q.occ (occI c)
theorem zIG {T : List Def} (hT : mayC T = true) {occ : List Int} {o : Nat} (ho : o < 4) (ht : zH0 T occ o = true) {c : Int} (h : c ∈ zW T occ o) : occI c = o ∧ 4 * (o : Int) ≤ c ∧ c < 4 * (o : Int) + 4 := by
 unfold zH0 at ht
 simp only [Bool.and_eq_true, decide_eq_true_eq] at ht
 have hc := zGL hT (i := (occ.getD o 0).toNat) (by omega)
 unfold zW zBl at h
 obtain ⟨i, hi, rfl⟩ := List.mem_map.1 h
 have := List.mem_range'_1.1 hi
 refine ⟨?_, by omega, by omega⟩
 unfold occI
 rw [decide_eq_true (by omega), decide_eq_true (by omega)]
 simp only [Bool.and_self, cond_true]
 omega
theorem zQR {q : QT} (hq : QOk q) (hc : ∀ e ∈ q.P, zGr q e) : ∀ (d : Nat) (t : Tree) (m : Nat), setO d t = some m → m < 2 ^ q.occ.length → ∀ r ∈ (zU q d t).2, ∀ i ∈ zGM q.P (zK m), ∀ e, q.P[i]? = some e → zHY e (zU q d t).1 r = true
 | 0, t, m, h, _ => by simp [setO] at h
 | d + 1, .mk o l, m, h, hm => by
  intro r hr i hi e he
  have heP : e ∈ q.P := List.mem_of_getElem? he
  have hiw : zK m (setE e) = true := by
   unfold zGM at hi
   have := (List.mem_filter.1 hi).2
   rw [he] at this
   simpa using this
  have hbits : ∀ (s : Nat), s < 16 → zK s (setE e) = true → ∀ c ∈ zFb e, s.testBit (occI c) = true := fun s hs hw c hcc =>
   zQQ s hs (setE e) (zMa e) (of_decide_eq_true hw) _ (zEg c) (zMf _ 0 _ (by omega) (zEg c) (.inr ⟨c, hcc, rfl⟩))
  have hkl : ∀ (idx : List Nat) (c : List Int), i ∈ idx → zLL (exQ q.P idx) c r = true → zHY e c r = true := fun idx c hidx hk => by
   unfold zLL at hk
   refine List.all_eq_true.1 hk e ?_
   unfold exQ
   exact List.mem_filterMap.2 ⟨i, hidx, he⟩
  rcases zB1 h with ⟨rfl, h1, h2, rfl⟩ | ⟨a, b, x, y, rfl, rfl, hx, hy, h4, rfl⟩
  ·simp only [zU] at hr ⊢
   exact hkl _ _ hi (List.mem_filter.1 hr).2
  ·have hle1 : x ≤ x ||| y := Nat.left_le_or
   have hle2 : y ≤ x ||| y := Nat.right_le_or
   have hxl := zAQ _ _ _ hx
   have hyl := zAQ _ _ _ hy
   have ra := zE8 hq.fits hq.vals hq.occ hq.inT d a x hx (by omega)
   have rb := zE8 hq.fits hq.vals hq.occ hq.inT d b y hy (by omega)
   simp only [zU] at hr ⊢
   obtain ⟨hr1, hr2⟩ := List.mem_filter.1 hr
   have hr3 := hr1
   unfold zAz at hr3
   obtain ⟨u, hu, hr4⟩ := List.mem_flatMap.1 hr3
   obtain ⟨v, hv, rfl⟩ := List.mem_map.1 hr4
   have hmem : ∀ (s : Nat), zK s (setE e) = true → s < 16 → i ∈ zGM q.P (zK s) := fun s hs _ => by
    unfold zGM at hi ⊢
    exact List.mem_filter.2 ⟨(List.mem_filter.1 hi).1, by rw [he]; exact hs⟩
   cases hwx : zK x (setE e) with
   | true =>
    have ih := zQR hq hc d a x hx (by omega) u hu i (hmem x hwx hxl) e he
    rw [← ih]
    refine zEI fun c hcc => zEK (decide_eq_true ((zIF q d a x hx c).2 ⟨occI c, zEg c, hbits x hxl hwx c hcc, hc e heP c hcc⟩)) (ra.rows u hu).1
   | false =>
    cases hwy : zK y (setE e) with
    | true =>
     have ih := zQR hq hc d b y hy (by omega) v hv i (hmem y hwy hyl) e he
     rw [← ih]
     refine zEI fun c hcc => ?_
     have hcb := (zIF q d b y hy c).2 ⟨occI c, zEg c, hbits y hyl hwy c hcc, hc e heP c hcc⟩
     refine zC7 (decide_eq_false fun hca => ?_) (decide_eq_true hcb) (ra.rows u hu).1 (rb.rows v hv).1
     exact zMe _ hxl _ hyl h4 _ (by have := (ra.cols c hca).2.1; have := (ra.cols c hca).1; omega) ⟨(ra.cols c hca).2.2, (rb.cols c hcb).2.2⟩
    | false =>
     rw [hx, hy, Option.getD_some, Option.getD_some] at hr2
     refine hkl _ _ ?_ hr2
     unfold newQ zGM
     unfold zGM at hi
     refine List.mem_filter.2 ⟨(List.mem_filter.1 hi).1, ?_⟩
     rw [he]
     simp only [Option.any_some, newF, hiw, hwx, hwy, Bool.not_false, Bool.and_self]
theorem zT3 : ∀ m : Nat, m < 16 → ∀ n : Nat, n < 5 → m < 2 ^ n → ∀ o : Nat, o < 4 → m.testBit o = true → o < n := by decide +kernel
theorem zUq {q : QT} (hq : QOk q) {o : Nat} (ho : o < q.occ.length) : zH0 q.T q.occ o = true := by
 have := hq.inT _ (List.getElem_mem ho)
 unfold zH0
 rw [List.getD_eq_getElem?_getD, List.getElem?_eq_getElem ho, Option.getD_some, decide_eq_true this.1, decide_eq_true this.2]; rfl
theorem zR8 (T : List Def) (hT : mayC T = true) (occ : List Int) (is : Nat → Bool) : ∀ (k i : Nat), i + k ≤ 4 → (allL T occ is i k).Nodup
 | 0, i, _ => by simp [allL]
 | k + 1, i, h => by
  have e : allL T occ is i (k + 1) = (bif is i && zH0 T occ i then zW T occ i else []) ++ allL T occ is (i + 1) k := by
   unfold allL
   rw [List.range'_succ, List.flatMap_cons]
  rw [e]
  refine List.nodup_append.2 ⟨?_, zR8 T hT occ is k (i + 1) (by omega), fun c hc c' hc' e => ?_⟩
  ·cases is i && zH0 T occ i with
   | false => simp
   | true =>
    simp only [cond_true]
    unfold zW zBl
    exact List.pairwise_map.2 ((List.nodup_range' (s := 0) (n := _)).imp fun {a b} h e => h (by omega))
  ·subst e
   cases hb : is i && zH0 T occ i with
   | false => rw [hb] at hc; cases hc
   | true =>
    rw [hb] at hc
    simp only [Bool.and_eq_true] at hb
    simp only [cond_true] at hc
    have h1 := (zIG hT (by omega) hb.2 hc).1
    obtain ⟨o, k1, k2, k3, k4, k5⟩ := (zQP T occ is k (i + 1) c).1 hc'
    have h2 := (zIG hT (by omega) k4 k5).1
    omega
theorem zR9 {q : QT} (hq : QOk q) {by_ : Int} {sums out : List Int} {ord : Int} (h : mayQ q.T q.occ q.P by_ sums out ord = true) : ∀ e ∈ q.P, zGr q e := by
 intro e he c hc
 have hT : mayC q.T = true := (zJq hq.fits).2.1
 unfold mayQ at h
 simp only [Bool.and_eq_true, decide_eq_true_eq, List.all_eq_true] at h
 have h1 := h.1.2 e he
 unfold zR4 zFT at h1
 simp only [Bool.and_eq_true, List.all_eq_true] at h1
 have h2 := of_decide_eq_true (h1.2 c hc)
 obtain ⟨o, k1, k2, k3, k4, k5⟩ := (zQP _ _ _ _ _ c).1 h2
 have := (zIG hT (by omega) k4 k5).1
 rw [this]; exact k5
end Go.Cf

namespace Go.Cf
open Go Go.Ab
set_option linter.unusedVariables false
set_option linter.unusedSimpArgs false
theorem zT4 {r s : List (List Val)} {z : List Val} (h : z ∈ zAz r s) : ∃ x ∈ r, ∃ y ∈ s, z = x ++ y := by
 unfold zAz at h
 obtain ⟨x, hx, h⟩ := List.mem_flatMap.1 h
 obtain ⟨y, hy, rfl⟩ := List.mem_map.1 h
 exact ⟨x, hx, y, hy, rfl⟩
theorem zP2 (r s t : List (List Val)) : zAz (zAz r s) t = zAz r (zAz s t) := by
 unfold zAz
 rw [List.flatMap_assoc]
 congr 1; funext x
 rw [List.map_flatMap, List.flatMap_map]
 congr 1; funext y
 rw [List.map_map]
 congr 1; funext z
 simp
theorem zT5 {α β γ : Type} (f : α → β → γ) : ∀ (r : List α) (s : List β), (s.flatMap fun y => r.map fun x => f x y).Perm (r.flatMap fun x => s.map fun y => f x y)
 | [], s => by
  have : ∀ s : List β, (s.flatMap fun y => ([] : List α).map fun x => f x y) = [] := fun s => by induction s with | nil => rfl | cons a s ih => rw [List.flatMap_cons, ih]; rfl
  rw [this]; exact List.Perm.refl _
 | x :: r, s => by
  have h1 : (s.flatMap fun y => (x :: r).map fun x => f x y).Perm ((s.map fun y => f x y) ++ s.flatMap fun y => r.map fun x => f x y) := by
   induction s with
   | nil => exact List.Perm.refl _
   | cons y s ih =>
    simp only [List.flatMap_cons, List.map_cons, List.cons_append]
    refine List.Perm.cons _ ?_
    refine (List.Perm.append_left _ ih).trans ?_
    rw [← List.append_assoc, ← List.append_assoc]
    refine List.Perm.append_right _ ?_
    exact List.perm_append_comm
  rw [List.flatMap_cons]
  exact h1.trans (List.Perm.append_left _ (zT5 f r s))
theorem zIH {α β : Type} {f g : α → List β} : ∀ {l : List α}, (∀ x ∈ l, f x = g x) → l.flatMap f = l.flatMap g
 | [], _ => rfl
 | a :: l, h => by rw [List.flatMap_cons, List.flatMap_cons, h a (by simp), zIH (fun x hx => h x (by simp [hx]))]
end Go.Cf

namespace Go.Cf
open Go Go.Ab
set_option linter.unusedVariables false
set_option linter.unusedSimpArgs false
theorem zGe : ∀ m : Nat, m < 16 → m ≠ 0 → 1 ≤ cntS m := by decide +kernel
theorem zH1 : ∀ (d : Nat) (t : Tree) (m : Nat), setO d t = some m → m ≠ 0
 | 0, t, m, h => by simp [setO] at h
 | d + 1, .mk o l, m, h => by
  rcases zB1 h with ⟨rfl, h1, h2, rfl⟩ | ⟨a, b, x, y, rfl, rfl, hx, hy, h4, rfl⟩
  ·exact Nat.ne_of_gt (Nat.pow_pos (by omega))
  ·have := zH1 d a x hx
   have h5 : x ≤ x ||| y := Nat.left_le_or
   omega
theorem zOC (d : Nat) (a b : Tree) : setO (d + 1) (.mk 0 [a, b]) = (setO d a).bind fun x => (setO d b).bind fun y => bif decide (x &&& y = 0) then some (x ||| y) else none := by
 simp only [setO, decide_true, cond_true]
theorem zJs : ∀ (d : Nat) (t : Tree) (m : Nat), setO d t = some m → setO (cntS m) t = some m
 | 0, t, m, h => by simp [setO] at h
 | d + 1, .mk o l, m, h => by
  rcases zB1 h with ⟨rfl, h1, h2, rfl⟩ | ⟨a, b, x, y, rfl, rfl, hx, hy, h4, rfl⟩
  ·rw [zMd _ (by omega)]; simp [setO, h1, h2]
  ·have hxl := zAQ _ _ _ hx
   have hyl := zAQ _ _ _ hy
   have px := zGe x hxl (zH1 _ _ _ hx)
   have py := zGe y hyl (zH1 _ _ _ hy)
   rw [zMc _ hxl _ hyl h4]
   obtain ⟨k, hk⟩ : ∃ k, cntS x + cntS y = k + 1 := ⟨cntS x + cntS y - 1, by omega⟩
   have ea := zGN (zJs d a x hx) (k - cntS x)
   have eb := zGN (zJs d b y hy) (k - cntS y)
   rw [show cntS x + (k - cntS x) = k by omega] at ea
   rw [show cntS y + (k - cntS y) = k by omega] at eb
   rw [hk, zOC, ea, eb]
   simp only [Option.bind_some, h4, decide_true, cond_true]
def zA8 (a b : Tree) : Tree := .mk 0 [a, b]
theorem zCm (a b : Tree) : setO 4 (zA8 a b) = (setO 4 a).bind fun x => (setO 4 b).bind fun y => bif decide (x &&& y = 0) then some (x ||| y) else none := by
 have e : setO 4 (zA8 a b) = (setO 3 a).bind fun x => (setO 3 b).bind fun y => bif decide (x &&& y = 0) then some (x ||| y) else none := zOC 3 a b
 rw [e]
 have low : ∀ t : Tree, setO 4 t = none → setO 3 t = none := fun t h => by
  cases h3 : setO 3 t with
  | none => rfl
  | some x => rw [zEJ 3 t x h3] at h; cases h
 have up : ∀ (t : Tree) (x : Nat), setO 4 t = some x → cntS x ≤ 3 → setO 3 t = some x := fun t x h hc => by
  have := zGN (zJs 4 t x h) (3 - cntS x)
  rwa [show cntS x + (3 - cntS x) = 3 by omega] at this
 have up2 : ∀ (t : Tree) (x : Nat), setO 4 t = some x → setO 3 t = some x ∨ setO 3 t = none := fun t x h => by
  cases h3 : setO 3 t with
  | none => exact .inr rfl
  | some z => rw [zEJ 3 t z h3] at h; exact .inl h
 cases ha : setO 4 a with
 | none => rw [low a ha]; rfl
 | some x =>
  cases hb : setO 4 b with
  | none =>
   rw [low b hb]
   cases setO 3 a <;> rfl
  | some y =>
   simp only [Option.bind_some]
   have hxl := zAQ _ _ _ ha
   have hyl := zAQ _ _ _ hb
   by_cases h : x &&& y = 0
   ·have px := zGe x hxl (zH1 _ _ _ ha)
    have py := zGe y hyl (zH1 _ _ _ hb)
    have := zMc _ hxl _ hyl h
    have h4 := zPY (x ||| y) (zR6 _ hxl _ hyl)
    rw [up a x ha (by omega), up b y hb (by omega)]
    rfl
   ·rw [decide_eq_false h]
    rcases up2 a x ha with e1 | e1 <;> rcases up2 b y hb with e2 | e2 <;> rw [e1, e2] <;> simp [h]
theorem zLo (q : QT) : ∀ (d : Nat) (t : Tree) (m : Nat), setO d t = some m → zU q (d + 1) t = zU q d t
 | 0, t, m, h => by simp [setO] at h
 | d + 1, .mk o l, m, h => by
  rcases zB1 h with ⟨rfl, h1, h2, rfl⟩ | ⟨a, b, x, y, rfl, rfl, hx, hy, h4, rfl⟩
  ·simp only [zU]
  ·simp only [zU, zLo q d a x hx, zLo q d b y hy, zEJ d a x hx, zEJ d b y hy, hx, hy]
def zAC : Nat → Tree → List Nat
 | 0, _ => []
 | _ + 1, .mk o [] => [o.toNat]
 | d + 1, .mk _ [x, y] => zAC d x ++ zAC d y
 | _ + 1, .mk _ [_] => []
 | _ + 1, .mk _ (_ :: _ :: _ :: _) => []
theorem zGO : ∀ (d : Nat) (t : Tree) (m : Nat), setO d t = some m → zAC (d + 1) t = zAC d t
 | 0, t, m, h => by simp [setO] at h
 | d + 1, .mk o l, m, h => by
  rcases zB1 h with ⟨rfl, h1, h2, rfl⟩ | ⟨a, b, x, y, rfl, rfl, hx, hy, h4, rfl⟩
  ·simp only [zAC]
  ·simp only [zAC, zGO d a x hx, zGO d b y hy]
theorem zUr : ∀ n : Nat, n < 4 → ∀ o : Nat, ((2 ^ n).testBit o = true ↔ o = n) := fun n hn o => by
 rw [Nat.testBit_two_pow]
 simp only [decide_eq_true_eq]
 omega
theorem zBQ : ∀ (d : Nat) (t : Tree) (m : Nat), setO d t = some m → ∀ o, o ∈ zAC d t ↔ m.testBit o = true
 | 0, t, m, h, o => by simp [setO] at h
 | d + 1, .mk z l, m, h, o => by
  rcases zB1 h with ⟨rfl, h1, h2, rfl⟩ | ⟨a, b, x, y, rfl, rfl, hx, hy, h4, rfl⟩
  ·simp only [zAC, List.mem_singleton, zUr z.toNat (by omega) o]
  ·simp only [zAC, List.mem_append, zBQ d a x hx o, zBQ d b y hy o, Nat.testBit_or, Bool.or_eq_true]
theorem zQS : ∀ m : Nat, m < 16 → ∀ o : Nat, m.testBit o = true → o < 4 := fun m hm o h => by
 have := Nat.testBit_lt_two_pow (x := m) (i := o)
 apply Classical.byContradiction
 intro hn
 have h16 : 2 ^ 4 ≤ 2 ^ o := Nat.pow_le_pow_right (by omega) (by omega)
 rw [Nat.testBit_lt_two_pow (show m < 2 ^ o by omega)] at h
 cases h
theorem zBb : ∀ (d : Nat) (t : Tree) (m : Nat), setO d t = some m → (zAC d t).Nodup
 | 0, t, m, h => by simp [setO] at h
 | d + 1, .mk z l, m, h => by
  rcases zB1 h with ⟨rfl, h1, h2, rfl⟩ | ⟨a, b, x, y, rfl, rfl, hx, hy, h4, rfl⟩
  ·simp [zAC]
  ·simp only [zAC]
   refine List.nodup_append.2 ⟨zBb d a x hx, zBb d b y hy, fun o h1 o' h2 e => ?_⟩
   subst e
   have b1 := (zBQ d a x hx o).1 h1
   have b2 := (zBQ d b y hy o).1 h2
   exact zMe _ (zAQ _ _ _ hx) _ (zAQ _ _ _ hy) h4 o (zQS x (zAQ _ _ _ hx) o b1) ⟨b1, b2⟩
theorem zP3 {d d' : Nat} {t t' : Tree} {m : Nat} (h : setO d t = some m) (h' : setO d' t' = some m) : (zAC d t).Perm (zAC d' t') :=
 (List.perm_ext_iff_of_nodup (zBb d t m h) (zBb d' t' m h')).2 fun o => by rw [zBQ d t m h, zBQ d' t' m h']
theorem zFU {a b : Tree} {x y : Nat} (ha : setO 4 a = some x) (hb : setO 4 b = some y) (hxy : x &&& y = 0) : zAC 4 (zA8 a b) = zAC 4 a ++ zAC 4 b := by
 have h := zCm a b
 rw [ha, hb] at h
 simp only [Option.bind_some, hxy, decide_true, cond_true] at h
 have h3 : ∀ t : Tree, ∀ z, setO 4 t = some z → cntS z ≤ 3 → zAC 4 t = zAC 3 t := fun t z hz hc => by
  have := zGN (zJs 4 t z hz) (3 - cntS z)
  rw [show cntS z + (3 - cntS z) = 3 by omega] at this
  exact zGO 3 t z this
 have hxl := zAQ _ _ _ ha
 have hyl := zAQ _ _ _ hb
 have px := zGe x hxl (zH1 _ _ _ ha)
 have py := zGe y hyl (zH1 _ _ _ hb)
 have := zMc _ hxl _ hyl hxy
 have h4 := zPY (x ||| y) (zR6 _ hxl _ hyl)
 rw [h3 a x ha (by omega), h3 b y hb (by omega)]
 rfl
def zM (q : QT) (l : List Nat) : List Int := l.flatMap fun o => zW q.T q.occ o
def zB2 (q : QT) : List Nat → List (List Val)
 | [] => [[]]
 | o :: l => zAz (q.leaf o) (zB2 q l)
theorem zT6 (r : List (List Val)) : zAz r [[]] = r := by
 unfold zAz
 induction r with
 | nil => rfl
 | cons x r ih => rw [List.flatMap_cons, ih]; simp
theorem zRa (r : List (List Val)) : zAz [[]] r = r := by
 unfold zAz
 simp
theorem zJR (q : QT) : ∀ l l' : List Nat, zB2 q (l ++ l') = zAz (zB2 q l) (zB2 q l')
 | [], l' => by rw [List.nil_append, zB2, zRa]
 | o :: l, l' => by rw [List.cons_append, zB2, zJR q l l', zB2, zP2]
theorem zOD (q : QT) (l l' : List Nat) : zM q (l ++ l') = zM q l ++ zM q l' := by simp [zM]
theorem zGP {q : QT} (hq : QOk q) {o : Nat} (ho : o < q.occ.length) : (∀ r ∈ q.leaf o, r.length = (zW q.T q.occ o).length ∧ r.all mayV = true ∧ ROk r) ∧ (q.leaf o).length ≤ 8 := by
 have h4 : o < 4 := by have := hq.occ; omega
 have hg : q.occ.getD o 0 = q.occ[o] := by rw [List.getD_eq_getElem?_getD, List.getElem?_eq_getElem ho]; rfl
 have h := RT.leaf (q := q) hq.fits hq.vals (o := o) h4 (by rw [hg]; exact hq.inT _ (List.getElem_mem ho)) (fun _ => true)
 rw [List.filter_eq_self.2 (fun _ _ => rfl)] at h
 refine ⟨h.rows, ?_⟩
 have := h.len
 rw [zMd o h4] at this
 exact this
theorem zDj {q : QT} (hq : QOk q) : ∀ {l : List Nat}, (∀ o ∈ l, o < q.occ.length) → ∀ r ∈ zB2 q l, r.length = (zM q l).length ∧ r.all mayV = true ∧ ROk r
 | [], _, r, hr => by
  simp only [zB2, List.mem_singleton] at hr
  subst hr
  exact ⟨rfl, rfl, fun v hv => by cases hv⟩
 | o :: l, hl, r, hr => by
  simp only [zB2] at hr
  obtain ⟨x, hx, y, hy, rfl⟩ := zT4 hr
  obtain ⟨a1, a2, a3⟩ := (zGP hq (hl o (by simp))).1 x hx
  obtain ⟨b1, b2, b3⟩ := zDj hq (fun o ho => hl o (by simp [ho])) y hy
  refine ⟨by simp only [zM, List.flatMap_cons, List.length_append] at b1 ⊢; omega, by rw [List.all_append, a2, b2]; rfl, fun v hv => ?_⟩
  rcases List.mem_append.1 hv with h | h
  ·exact a3 v h
  ·exact b3 v h
theorem zOE {q : QT} (hq : QOk q) : ∀ {l : List Nat}, (∀ o ∈ l, o < q.occ.length) → (zB2 q l).length ≤ 8 ^ l.length
 | [], _ => by simp [zB2]
 | o :: l, hl => by
  have h1 := (zGP hq (hl o (by simp))).2
  have h2 := zOE hq (l := l) (fun o ho => hl o (by simp [ho]))
  simp only [zB2, zIE, List.length_cons]
  rw [Nat.pow_succ, Nat.mul_comm]
  exact Nat.mul_le_mul h2 h1
def zII (q : QT) (f : Nat → Bool) (c : List Int) (r : List Val) : Bool := zLL (exQ q.P (zGM q.P f)) c r
theorem zP4 {P : List Ex} {f : Nat → Bool} {e : Ex} : e ∈ exQ P (zGM P f) ↔ e ∈ P ∧ f (setE e) = true := by
 unfold exQ zGM
 rw [List.mem_filterMap]
 constructor
 ·rintro ⟨i, hi, h⟩
  have h2 := (List.mem_filter.1 hi).2
  rw [h] at h2
  exact ⟨List.mem_of_getElem? h, by simpa using h2⟩
 ·rintro ⟨h1, h2⟩
  obtain ⟨i, hi, rfl⟩ := List.mem_iff_getElem.1 h1
  refine ⟨i, List.mem_filter.2 ⟨List.mem_range'_1.2 ⟨by omega, by omega⟩, ?_⟩, List.getElem?_eq_getElem hi⟩
  rw [List.getElem?_eq_getElem hi]
  simpa using h2
theorem zEw {q : QT} {f : Nat → Bool} {c : List Int} {r : List Val} : zII q f c r = true ↔ ∀ e ∈ q.P, f (setE e) = true → zHY e c r = true := by
 unfold zII zLL
 rw [List.all_eq_true]
 exact ⟨fun h e he hf => h e (zP4.2 ⟨he, hf⟩), fun h e he => h e (zP4.1 he).1 (zP4.1 he).2⟩
theorem zUs {s : Nat} (hs : s < 16) {e : Ex} (hw : zK s (setE e) = true) {c : Int} (hc : c ∈ zFb e) : s.testBit (occI c) = true :=
 zQQ s hs (setE e) (zMa e) (of_decide_eq_true hw) _ (zEg c) (zMf _ 0 _ (by omega) (zEg c) (.inr ⟨c, hc, rfl⟩))
theorem zP5 {q : QT} (hc : ∀ e ∈ q.P, zGr q e) {l : List Nat} {m : Nat} (hm : m < 16) (hl : ∀ o, m.testBit o = true → o ∈ l) {e : Ex} (he : e ∈ q.P) (hw : zK m (setE e) = true) : ∀ c ∈ zFb e, c ∈ zM q l := fun c hcc =>
 List.mem_flatMap.2 ⟨occI c, hl _ (zUs hm hw hcc), hc e he c hcc⟩
theorem zGQ {q : QT} (hq : QOk q) {l : List Nat} (hl : ∀ o ∈ l, o < q.occ.length) {c : Int} (h : c ∈ zM q l) : occI c ∈ l ∧ 0 ≤ c ∧ c ≤ 15 := by
 obtain ⟨o, ho, hc⟩ := List.mem_flatMap.1 h
 have hT : mayC q.T = true := (zJq hq.fits).2.1
 have h4 : o < 4 := by have := hq.occ; have := hl o ho; omega
 obtain ⟨h1, h2, h3⟩ := zIG hT h4 (zUq hq (hl o ho)) hc
 rw [h1]
 exact ⟨ho, by omega, by omega⟩
theorem zEL {q : QT} (hq : QOk q) : ∀ {l : List Nat}, (∀ o ∈ l, o < q.occ.length) → l.Nodup → (zM q l).Nodup
 | [], _, _ => by simp [zM]
 | o :: l, hl, hn => by
  have hn2 := List.nodup_cons.1 hn
  show (zW q.T q.occ o ++ zM q l).Nodup
  refine List.nodup_append.2 ⟨?_, zEL hq (fun o ho => hl o (by simp [ho])) hn2.2, fun c hc c' hc' e => ?_⟩
  ·unfold zW zBl
   exact List.pairwise_map.2 ((List.nodup_range' (s := 0) (n := _)).imp fun {a b} h e => h (by omega))
  ·subst e
   have h1 : c ∈ zM q [o] := by simpa [zM] using hc
   have h2 := (zGQ hq (l := [o]) (fun z hz => by rw [List.mem_singleton] at hz; subst hz; exact hl z (by simp)) h1).1
   rw [List.mem_singleton] at h2
   have h3 := (zGQ hq (fun o ho => hl o (by simp [ho])) hc').1
   rw [h2] at h3
   exact hn2.1 h3
theorem zOF {x y s : Nat} (h : zK x s = true ∨ zK y s = true) : zK (x ||| y) s = true := by
 unfold zK at h ⊢
 simp only [decide_eq_true_eq] at h ⊢
 rw [Nat.and_or_distrib_right]
 rcases h with h | h
 ·rw [h]
  apply Nat.eq_of_testBit_eq
  intro i
  rw [Nat.testBit_or, Nat.testBit_and]
  cases s.testBit i <;> simp
 ·rw [h]
  apply Nat.eq_of_testBit_eq
  intro i
  rw [Nat.testBit_or, Nat.testBit_and]
  cases s.testBit i <;> simp
theorem zUt {q : QT} (hq : QOk q) (hc : ∀ e ∈ q.P, zGr q e) {l l' : List Nat} {x y : Nat} (hx : x < 16) (hy : y < 16) (hxy : x &&& y = 0) (hl : ∀ o, o ∈ l ↔ x.testBit o = true) (hl' : ∀ o, o ∈ l' ↔ y.testBit o = true)
 (hlo : ∀ o ∈ l, o < q.occ.length) (hlo' : ∀ o ∈ l', o < q.occ.length) {u v : List Val} (hu : u.length = (zM q l).length) (hv : v.length = (zM q l').length) :
 zII q (zK (x ||| y)) (zM q l ++ zM q l') (u ++ v) = (zII q (zK x) (zM q l) u && zII q (zK y) (zM q l') v && zII q (newF x y) (zM q l ++ zM q l') (u ++ v)) := by
 have left : ∀ e ∈ q.P, zK x (setE e) = true → zHY e (zM q l ++ zM q l') (u ++ v) = zHY e (zM q l) u := fun e he hw =>
  zEI fun c hcc => zEK (decide_eq_true (zP5 hc hx (fun o => (hl o).2) he hw c hcc)) hu
 have right : ∀ e ∈ q.P, zK y (setE e) = true → zHY e (zM q l ++ zM q l') (u ++ v) = zHY e (zM q l') v := fun e he hw =>
  zEI fun c hcc => by
   have h1 := zP5 hc hy (fun o => (hl' o).2) he hw c hcc
   refine zC7 (decide_eq_false fun h2 => ?_) (decide_eq_true h1) hu hv
   have b1 := (hl _).1 (zGQ hq hlo h2).1
   have b2 := (hl' _).1 (zGQ hq hlo' h1).1
   exact zMe _ hx _ hy hxy _ (zEg c) ⟨b1, b2⟩
 rw [Bool.eq_iff_iff, Bool.and_eq_true, Bool.and_eq_true, zEw, zEw, zEw, zEw]
 constructor
 ·intro h
  refine ⟨⟨fun e he hw => ?_, fun e he hw => ?_⟩, fun e he hw => ?_⟩
  ·rw [← left e he hw]; exact h e he (zOF (.inl hw))
  ·rw [← right e he hw]; exact h e he (zOF (.inr hw))
  ·unfold newF at hw
   simp only [Bool.and_eq_true] at hw
   exact h e he hw.1.1
 ·rintro ⟨⟨h1, h2⟩, h3⟩ e he hw
  cases hwx : zK x (setE e) with
  | true => rw [left e he hwx]; exact h1 e he hwx
  | false =>
   cases hwy : zK y (setE e) with
   | true => rw [right e he hwy]; exact h2 e he hwy
   | false =>
    refine h3 e he ?_
    unfold newF
    rw [hw, hwx, hwy]; rfl
theorem zKz {f g h k : List Val → Bool} : ∀ {r s : List (List Val)}, (∀ u ∈ r, ∀ v ∈ s, k (u ++ v) = (f u && g v && h (u ++ v))) → (zAz (r.filter f) (s.filter g)).filter h = (zAz r s).filter k
 | [], s, _ => rfl
 | a :: r, s, H => by
  have ih := zKz (r := r) (s := s) fun u hu v hv => H u (by simp [hu]) v hv
  have e : ∀ (r s : List (List Val)), zAz (a :: r) s = (s.map fun y => a ++ y) ++ zAz r s := fun _ _ => rfl
  rw [e, List.filter_append, ← ih, List.filter_cons]
  cases hf : f a with
  | true =>
   rw [if_pos rfl, e, List.filter_append]
   congr 1
   rw [List.filter_map, List.filter_map, List.filter_filter]
   congr 1
   refine List.filter_congr fun v hv => ?_
   have := H a (by simp) v hv
   simp only [Function.comp_apply]
   rw [this, hf, Bool.true_and, Bool.and_comm]
  | false =>
   rw [if_neg (by simp)]
   have : (s.map fun y => a ++ y).filter k = [] := by
    rw [List.filter_eq_nil_iff]
    intro z hz
    obtain ⟨v, hv, rfl⟩ := List.mem_map.1 hz
    rw [H a (by simp) v hv, hf]; simp
   rw [this, List.nil_append]
theorem zDk {q : QT} (hq : QOk q) (hc : ∀ e ∈ q.P, zGr q e) : ∀ (d : Nat) (t : Tree) (m : Nat), setO d t = some m → m < 2 ^ q.occ.length → zU q d t = (zM q (zAC d t), (zB2 q (zAC d t)).filter (zII q (zK m) (zM q (zAC d t))))
 | 0, t, m, h, _ => by simp [setO] at h
 | d + 1, .mk o l, m, h, hm => by
  rcases zB1 h with ⟨rfl, h1, h2, rfl⟩ | ⟨a, b, x, y, rfl, rfl, hx, hy, h4, rfl⟩
  ·simp only [zU, zAC, zM, zB2, zT6, List.flatMap_cons, List.flatMap_nil, List.append_nil]
   rfl
  ·have hle1 : x ≤ x ||| y := Nat.left_le_or
   have hle2 : y ≤ x ||| y := Nat.right_le_or
   have hxl := zAQ _ _ _ hx
   have hyl := zAQ _ _ _ hy
   have hocc := hq.occ
   have ia := zDk hq hc d a x hx (by omega)
   have ib := zDk hq hc d b y hy (by omega)
   have la := zBQ d a x hx
   have lb := zBQ d b y hy
   have oa : ∀ o ∈ zAC d a, o < q.occ.length := fun o ho => zT3 x hxl q.occ.length (by omega) (by omega) o (zQS x hxl o ((la o).1 ho)) ((la o).1 ho)
   have ob : ∀ o ∈ zAC d b, o < q.occ.length := fun o ho => zT3 y hyl q.occ.length (by omega) (by omega) o (zQS y hyl o ((lb o).1 ho)) ((lb o).1 ho)
   simp only [zU, zAC, ia, ib, hx, hy, Option.getD_some, zOD, zJR]
   congr 1
   exact zKz fun u hu v hv => zUt hq hc hxl hyl h4 la lb oa ob (zDj hq oa u hu).1 (zDj hq ob v hv).1
theorem zT7 {α β : Type} {f g : α → List β} : ∀ {l : List α}, (∀ x ∈ l, (f x).Perm (g x)) → (l.flatMap f).Perm (l.flatMap g)
 | [], _ => List.Perm.refl _
 | a :: l, h => by
  rw [List.flatMap_cons, List.flatMap_cons]
  exact (h a (by simp)).append (zT7 fun x hx => h x (by simp [hx]))
theorem zOG {α β : Type} (f g : α → List β) : ∀ l : List α, (l.flatMap fun x => f x ++ g x).Perm (l.flatMap f ++ l.flatMap g)
 | [] => List.Perm.refl _
 | a :: l => by
  simp only [List.flatMap_cons, List.append_assoc]
  refine List.Perm.append_left _ ?_
  refine (List.Perm.append_left _ (zOG f g l)).trans ?_
  rw [← List.append_assoc, ← List.append_assoc]
  exact List.Perm.append_right _ List.perm_append_comm
theorem zT8 {α β γ : Type} (f : α → β → List γ) : ∀ (r : List α) (s : List β), (r.flatMap fun x => s.flatMap fun y => f x y).Perm (s.flatMap fun y => r.flatMap fun x => f x y)
 | [], s => by
  have : (s.flatMap fun y => ([] : List α).flatMap fun x => f x y) = [] := by induction s with | nil => rfl | cons a s ih => rw [List.flatMap_cons, ih]; rfl
  rw [this]; exact List.Perm.refl _
 | a :: r, s => by
  rw [List.flatMap_cons]
  refine (List.Perm.append_left _ (zT8 f r s)).trans ?_
  have := (zOG (fun y => f a y) (fun y => r.flatMap fun x => f x y) s).symm
  simpa only [List.flatMap_cons] using this
theorem zRb {c c' c'' : List Int} {r : List Val} (h : ∀ x ∈ c'', x ∈ c') : zBR c' c'' (zBR c c' r) = zBR c c'' r := by
 unfold zBR
 refine List.map_congr_left fun x hx => ?_
 exact zNs (decide_eq_true (h x hx))
theorem zUu {c d cols cols' : List Int} {u v : List Val} (hu : u.length = c.length) (hv : v.length = d.length) (h1 : ∀ x ∈ cols, x ∈ c) (h2 : ∀ x ∈ cols', x ∈ d ∧ x ∉ c) : zBR (c ++ d) (cols ++ cols') (u ++ v) = zBR c cols u ++ zBR d cols' v := by
 unfold zBR
 rw [List.map_append]
 congr 1
 ·exact List.map_congr_left fun x hx => zEK (decide_eq_true (h1 x hx)) hu
 ·exact List.map_congr_left fun x hx => zC7 (decide_eq_false (h2 x hx).2) (decide_eq_true (h2 x hx).1) hu hv
theorem zIJ (F : List Val → List Val) (r s : List (List Val)) : (zAz r s).map F = r.flatMap fun u => s.map fun v => F (u ++ v) := by
 unfold zAz
 rw [List.map_flatMap]
 refine zIH fun u _ => ?_
 rw [List.map_map]; rfl
theorem zIK (q : QT) {l l' : List Nat} (h : l.Perm l') (c : Int) : c ∈ zM q l ↔ c ∈ zM q l' := by
 unfold zM
 simp only [List.mem_flatMap, h.mem_iff]
theorem zRc {q : QT} (hq : QOk q) {l l' : List Nat} (h : l.Perm l') : (∀ o ∈ l, o < q.occ.length) → l.Nodup → ((zB2 q l).map (zBR (zM q l) (zM q l'))).Perm (zB2 q l') := by
 have pa : ∀ {o : Nat} {l : List Nat}, (∀ z ∈ o :: l, z < q.occ.length) → (o :: l).Nodup → ∀ x ∈ zM q l, x ∉ zW q.T q.occ o := fun {o l} hl hn x hx hx2 => by
  have := zEL hq hl hn
  have h3 : (zW q.T q.occ o ++ zM q l).Nodup := this
  exact (List.nodup_append.1 h3).2.2 x hx2 x hx rfl
 induction h with
 | nil => intro _ _; simp [zB2, zM, zBR]
 | @cons o l l' h ih =>
  intro hl hn
  have hl2 : ∀ z ∈ l, z < q.occ.length := fun z hz => hl z (by simp [hz])
  have hn2 := (List.nodup_cons.1 hn).2
  have ih := ih hl2 hn2
  show ((zAz (q.leaf o) (zB2 q l)).map (zBR (zW q.T q.occ o ++ zM q l) (zW q.T q.occ o ++ zM q l'))).Perm (zAz (q.leaf o) (zB2 q l'))
  rw [zIJ]
  show List.Perm _ ((q.leaf o).flatMap fun u => (zB2 q l').map fun v => u ++ v)
  refine zT7 fun u hu => ?_
  have lu := ((zGP hq (hl o (by simp))).1 u hu).1
  have hcn : (zW q.T q.occ o).Nodup := by
   have h3 : (zW q.T q.occ o ++ zM q l).Nodup := zEL hq hl hn
   exact (List.nodup_append.1 h3).1
  have e : ((zB2 q l).map fun v => zBR (zW q.T q.occ o ++ zM q l) (zW q.T q.occ o ++ zM q l') (u ++ v)) = ((zB2 q l).map (zBR (zM q l) (zM q l'))).map fun v => u ++ v := by
   rw [List.map_map]
   refine List.map_congr_left fun v hv => ?_
   have lv := (zDj hq hl2 v hv).1
   rw [zUu lu lv (fun x hx => hx) (fun x hx => ⟨(zIK q h x).2 hx, pa hl hn x ((zIK q h x).2 hx)⟩), zIC hcn lu]
   rfl
  rw [e]
  exact ih.map _
 | swap o o' l =>
  intro hl hn
  have hlo : o < q.occ.length := hl o (by simp)
  have hlo' : o' < q.occ.length := hl o' (by simp)
  have hl2 : ∀ z ∈ l, z < q.occ.length := fun z hz => hl z (by simp [hz])
  have h1 := List.nodup_cons.1 hn
  have h2 := List.nodup_cons.1 h1.2
  have hl3 : ∀ z ∈ o :: l, z < q.occ.length := fun z hz => hl z (by simp only [List.mem_cons] at hz ⊢; exact .inr hz)
  have hl4 : ∀ z ∈ o' :: l, z < q.occ.length := fun z hz => hl z (by simp only [List.mem_cons] at hz ⊢; rcases hz with h | h; exact .inl h; exact .inr (.inr h))
  have hn4 : (o' :: l).Nodup := List.nodup_cons.2 ⟨fun h => h1.1 (by simp [h]), h2.2⟩
  have nall : (zW q.T q.occ o' ++ (zW q.T q.occ o ++ zM q l)).Nodup := zEL hq hl hn
  have nl : (zW q.T q.occ o ++ zM q l).Nodup := (List.nodup_append.1 nall).2.1
  show ((zAz (q.leaf o') (zAz (q.leaf o) (zB2 q l))).map (zBR (zW q.T q.occ o' ++ (zW q.T q.occ o ++ zM q l)) (zW q.T q.occ o ++ (zW q.T q.occ o' ++ zM q l)))).Perm (zAz (q.leaf o) (zAz (q.leaf o') (zB2 q l)))
  have e : (zAz (q.leaf o') (zAz (q.leaf o) (zB2 q l))).map (zBR (zW q.T q.occ o' ++ (zW q.T q.occ o ++ zM q l)) (zW q.T q.occ o ++ (zW q.T q.occ o' ++ zM q l))) =
   (q.leaf o').flatMap fun u => (q.leaf o).flatMap fun v => (zB2 q l).map fun w => v ++ (u ++ w) := by
   rw [zIJ]
   refine zIH fun u hu => ?_
   have lu := ((zGP hq hlo').1 u hu).1
   have e2 : ((zAz (q.leaf o) (zB2 q l)).map fun z => zBR (zW q.T q.occ o' ++ (zW q.T q.occ o ++ zM q l)) (zW q.T q.occ o ++ (zW q.T q.occ o' ++ zM q l)) (u ++ z)) = (q.leaf o).flatMap fun v => (zB2 q l).map fun w => zBR (zW q.T q.occ o' ++ (zW q.T q.occ o ++ zM q l)) (zW q.T q.occ o ++ (zW q.T q.occ o' ++ zM q l)) (u ++ (v ++ w)) := zIJ (fun z => zBR _ _ (u ++ z)) _ _
   rw [e2]
   refine zIH fun v hv => List.map_congr_left fun w hw => ?_
   have lv := ((zGP hq hlo).1 v hv).1
   have lw := (zDj hq hl2 w hw).1
   have lvw : (v ++ w).length = (zW q.T q.occ o ++ zM q l).length := by rw [List.length_append, List.length_append, lv, lw]
   have dj := (List.nodup_append.1 nall).2.2
   unfold zBR
   rw [List.map_append, List.map_append]
   have k1 : (zW q.T q.occ o).map (zCc (zW q.T q.occ o' ++ (zW q.T q.occ o ++ zM q l)) (u ++ (v ++ w))) = v := by
    have : (zW q.T q.occ o).map (zCc (zW q.T q.occ o' ++ (zW q.T q.occ o ++ zM q l)) (u ++ (v ++ w))) = zBR (zW q.T q.occ o) (zW q.T q.occ o) v := by
     unfold zBR
     refine List.map_congr_left fun x hx => ?_
     rw [zC7 (decide_eq_false fun h => dj x h x (by simp [hx]) rfl) (decide_eq_true (by simp [hx])) lu lvw, zEK (decide_eq_true hx) lv]
    rw [this, zIC (List.nodup_append.1 nl).1 lv]
   have k2 : (zW q.T q.occ o').map (zCc (zW q.T q.occ o' ++ (zW q.T q.occ o ++ zM q l)) (u ++ (v ++ w))) = u := by
    have : (zW q.T q.occ o').map (zCc (zW q.T q.occ o' ++ (zW q.T q.occ o ++ zM q l)) (u ++ (v ++ w))) = zBR (zW q.T q.occ o') (zW q.T q.occ o') u := by
     unfold zBR
     exact List.map_congr_left fun x hx => zEK (decide_eq_true hx) lu
    rw [this, zIC (List.nodup_append.1 nall).1 lu]
   have k3 : (zM q l).map (zCc (zW q.T q.occ o' ++ (zW q.T q.occ o ++ zM q l)) (u ++ (v ++ w))) = w := by
    have : (zM q l).map (zCc (zW q.T q.occ o' ++ (zW q.T q.occ o ++ zM q l)) (u ++ (v ++ w))) = zBR (zM q l) (zM q l) w := by
     unfold zBR
     refine List.map_congr_left fun x hx => ?_
     rw [zC7 (decide_eq_false fun h => dj x h x (by simp [hx]) rfl) (decide_eq_true (by simp [hx])) lu lvw, zC7 (decide_eq_false fun h => (List.nodup_append.1 nl).2.2 x h x hx rfl) (decide_eq_true hx) lv lw]
    rw [this, zIC (List.nodup_append.1 nl).2.1 lw]
   rw [k1, k2, k3]
  have e3 : zAz (q.leaf o) (zAz (q.leaf o') (zB2 q l)) = (q.leaf o).flatMap fun v => (q.leaf o').flatMap fun u => (zB2 q l).map fun w => v ++ (u ++ w) := by
   show ((q.leaf o).flatMap fun v => (zAz (q.leaf o') (zB2 q l)).map fun z => v ++ z) = _
   refine zIH fun v _ => ?_
   exact zIJ (fun z => v ++ z) _ _
  rw [e, e3]
  exact zT8 (fun u v => (zB2 q l).map fun w => v ++ (u ++ w)) _ _
 | @trans l1 l2 l3 h1 h2 ih1 ih2 =>
  intro hl hn
  have i1 := ih1 hl hn
  have i2 := ih2 (fun o ho => hl o (h1.mem_iff.2 ho)) (h1.nodup_iff.1 hn)
  have e : (zB2 q l1).map (zBR (zM q l1) (zM q l3)) = ((zB2 q l1).map (zBR (zM q l1) (zM q l2))).map (zBR (zM q l2) (zM q l3)) := by
   rw [List.map_map]
   refine List.map_congr_left fun r hr => ?_
   exact (zRb fun x hx => (zIK q h2 x).2 hx).symm
  rw [e]
  exact (i1.map _).trans i2
theorem zRd {q : QT} (hc : ∀ e ∈ q.P, zGr q e) {l l' : List Nat} {m : Nat} (hm : m < 16) (hl : ∀ o, m.testBit o = true → o ∈ l') (r : List Val) : zII q (zK m) (zM q l') (zBR (zM q l) (zM q l') r) = zII q (zK m) (zM q l) r := by
 have k : ∀ e ∈ q.P, zK m (setE e) = true → zHY e (zM q l') (zBR (zM q l) (zM q l') r) = zHY e (zM q l) r := fun e he hw =>
  zEI fun c hcc => zNs (decide_eq_true (zP5 hc hm hl he hw c hcc))
 rw [Bool.eq_iff_iff, zEw, zEw]
 exact ⟨fun h e he hw => (k e he hw) ▸ h e he hw, fun h e he hw => (k e he hw).symm ▸ h e he hw⟩
theorem zT9 {q : QT} (hq : QOk q) (hc : ∀ e ∈ q.P, zGr q e) {l l' : List Nat} (h : l.Perm l') (hl : ∀ o ∈ l, o < q.occ.length) (hn : l.Nodup) {m : Nat} (hm : m < 16) (hml : ∀ o, m.testBit o = true → o ∈ l') :
 (((zB2 q l).filter (zII q (zK m) (zM q l))).map (zBR (zM q l) (zM q l'))).Perm ((zB2 q l').filter (zII q (zK m) (zM q l'))) := by
 have e : ((zB2 q l).filter (zII q (zK m) (zM q l))).map (zBR (zM q l) (zM q l')) = ((zB2 q l).map (zBR (zM q l) (zM q l'))).filter (zII q (zK m) (zM q l')) := by
  rw [List.filter_map]
  congr 1
  refine List.filter_congr fun r hr => ?_
  exact (zRd hc hm hml r).symm
 rw [e]
 exact (zRc hq h hl hn).filter _
theorem zOH {q : QT} (hq : QOk q) {l : List Nat} (hl : ∀ o ∈ l, o < q.occ.length) (hn : l.Nodup) (f : List Val → Bool) : mayB (zM q l) ((zB2 q l).filter f) = true := by
 have hlen : l.length ≤ q.occ.length := by
  have := List.Nodup.length_le_of_subset hn (l₂ := List.range q.occ.length) (fun o ho => List.mem_range.2 (hl o ho))
  simpa using this
 have h8 : 8 ^ l.length ≤ 8 ^ 4 := Nat.pow_le_pow_right (by omega) (by have := hq.occ; omega)
 have h1 := zOE hq hl
 have h2 := List.length_filter_le f (zB2 q l)
 unfold mayB
 simp only [Bool.and_eq_true, decide_eq_true_eq, List.all_eq_true]
 refine ⟨⟨(zKs _).2 ⟨fun c hc => (zGQ hq hl hc).2, zEL hq hl hn⟩, fun r hr => ?_⟩, by omega⟩
 have := zDj hq hl r (List.mem_filter.1 hr).1
 unfold rowB
 simp only [Bool.and_eq_true, decide_eq_true_eq]
 exact ⟨this.1, this.2.1⟩
end Go.Cf
