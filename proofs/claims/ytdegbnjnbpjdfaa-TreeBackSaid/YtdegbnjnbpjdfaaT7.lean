/- Go functions of this claim as Lean functions, and that each call comes to what its Lean function says; written for this claim by a program of this session (mkprint.py, over the kit's printer). Conditions: those in each theorem. -/
import Derived.Test.YtdegbnjnbpjdfaaT0
namespace Go.Proofs.Ytdegbnjnbpjdfaa.T
open Go.RowKit Go.Proofs.YtdegbnjnbpjdfaaW.PrintWords Go.Proofs.YtdegbnjnbpjdfaaW.PrintLast Go.Proofs.YtdegbnjnbpjdfaaW.PrintMore
attribute [local go_sem] max2_int min2_int max_two min_two max_three min_three max_four min_four   -- for this text's walks alone
set_option linter.unusedVariables false
set_option linter.unusedSimpArgs false

/-! ### tree_Same: function 39 -/
/-! #### tree.Same and slices.EqualFunc over it -/
mutual
def tree_Same.l0 : Nat → Nat → List S39 → List S39 → Option Bool
  | 0, _, _, _ => none
  | k + 1, i, x, y => if i < x.length then (tree_Same.f k (rd_T39 x i).f0 (rd_T39 x i).f1 (rd_T39 y i).f0 (rd_T39 y i).f1).bind fun b => if b = true then tree_Same.l0 k (i + 1) x y else some false else some true
def tree_Same.f : Nat → Int → List S39 → Int → List S39 → Option Bool
  | 0, _, _, _, _ => none
  | k + 1, a0, l0, a1, l1 => if a0 = a1 then (if l0.length = l1.length then tree_Same.l0 k 0 l0 l1 else some false) else some false
end
theorem tree_Same.mono_l : ∀ k, (∀ y0 y1 y2 y3, LeO (tree_Same.f k y0 y1 y2 y3) (tree_Same.f (k + 1) y0 y1 y2 y3)) ∧ (∀ y0 y1 y2, LeO (tree_Same.l0 k y0 y1 y2) (tree_Same.l0 (k + 1) y0 y1 y2))
  | 0 => ⟨fun _ _ _ _ r h => by simp [tree_Same.f] at h, fun _ _ _ r h => by simp [tree_Same.l0] at h⟩
  | k + 1 => by
    obtain ⟨ih0, ih1⟩ := tree_Same.mono_l k
    refine ⟨?_, ?_⟩
    · intro y0 y1 y2 y3
      unfold tree_Same.f
      exact LeO.ite (LeO.ite (ih1 _ _ _) (LeO.refl _)) (LeO.refl _)
    · intro y0 y1 y2
      unfold tree_Same.l0
      exact LeO.ite (LeO.bind (ih0 _ _ _ _) (fun _ => LeO.ite (ih1 _ _ _) (LeO.refl _))) (LeO.refl _)
theorem tree_Same.mono : ∀ a0 a1 a2 a3 k, LeO (tree_Same.f k a0 a1 a2 a3) (tree_Same.f (k + 1) a0 a1 a2 a3) := fun a0 a1 a2 a3 k => (tree_Same.mono_l k).1 a0 a1 a2 a3
def tree_Same.Spec (k : Nat) : Prop := ∀ (a0_0 : Int) (A0_1 : Option Addr) (c0_1 : Nat) (l0_1 : List (S39)) (a1_0 : Int) (A1_1 : Option Addr) (c1_1 : Nat) (l1_1 : List (S39)) (r : Bool) (w : World) (hr0_1 : Kd.C k39 w A0_1 l0_1.length l0_1) (hc0_1 : l0_1.length ≤ c0_1) (hr1_1 : Kd.C k39 w A1_1 l1_1.length l1_1) (hc1_1 : l1_1.length ≤ c1_1) (h : tree_Same.f k a0_0 l0_1 a1_0 l1_1 = some r),
    Calls Try.prog 39 #[.agg #[.int .i64 a0_0, .slice A0_1 l0_1.length c0_1], .agg #[.int .i64 a1_0, .slice A1_1 l1_1.length c1_1]] w fun e w' => e = .returned (.bool r) ∧ Below w.heap.size w w'
theorem eg39 : ∀ args w, (callFunc 39 args).run Try.prog w = .ok (.enter 39 args) w := enters_of Try.func39 (by kernel_rfl) rfl
set_option maxHeartbeats 1600000 in
set_option maxRecDepth 100000 in
theorem equalTree.calls (k : Nat) (ih : ∀ m, m < k → tree_Same.Spec m) (A0 : Option Addr) (c0 : Nat) (l0 : List S39) (A1 : Option Addr) (c1 : Nat) (l1 : List S39) (r : Bool) (w : World) (hr0 : Kd.C k39 w A0 l0.length l0) (hc0 : l0.length ≤ c0) (hr1 : Kd.C k39 w A1 l1.length l1) (hc1 : l1.length ≤ c1) (h : (if l0.length = l1.length then tree_Same.l0 k 0 l0 l1 else some false) = some r) :
    Calls Try.prog 89 #[.slice A0 l0.length c0, .slice A1 l1.length c1, .func (.func 39) #[] #[]] w fun e w' => e = .returned (.bool r) ∧ Below w.heap.size w w' := by
  have hmax := hr0.2.1
  have HR0 := Aside0.mk hr0
  have HR1 := Aside0.mk hr1
  clear hr0 hc0 hr1 hc1
  have hu39 := Try.underlying39
  have IH := Aside0.mk ih
  clear ih
  have H := Aside0.mk h
  clear h
  by_cases hl : l0.length = l1.length
  · have hlb : ((l0.length : Int) != (l1.length : Int)) = false := by simp [hl]
    have h := H.out
    rw [if_pos hl] at h
    replace H := Aside0.mk h
    have HLE := Aside0.mk hl
    clear h hl
    go_enter Try.func89, Try.ntmps89
    go_wp2_with fail
    go_loopg [7, 8, 9, 17] k (fun gg _ _ _ s17 wr => ∃ kk : Nat, kk ≤ l0.length ∧ gg ≤ k ∧ s17 = .int .i64 kk ∧ Aside0 (Below w.heap.size w wr) ∧ Aside0 (tree_Same.l0 gg kk l0 l1 = some r))
    case atStart => exact ⟨0, Nat.zero_le _, Nat.le_refl _, rfl, ⟨Below.refl _ w⟩, H⟩
    case round =>
      obtain ⟨kk, hkk, hg, rfl, BW, HL⟩ := hrel
      cases gk with
      | zero => exact absurd HL.out (by simp [tree_Same.l0])
      | succ gk =>
      have h := HL.out
      simp only [tree_Same.l0] at h
      clear HL
      by_cases hlt : kk < l0.length
      · rw [if_pos hlt] at h
        have hltz : (kk : Int) < (l0.length : Int) := by omega
        have hltz1 : (kk : Int) < (l1.length : Int) := by have := HLE.out; omega
        have hk0 : (0 : Int) ≤ (kk : Int) := by omega
        obtain ⟨b, hb, h⟩ := Option.bind_eq_some_iff.mp h
        have HBB := Aside0.mk hb
        have HH := Aside0.mk h
        clear hb h
        obtain ⟨ad, B0, d0, e_, hx0, hx1, hy, hz⟩ := at_T39 HR0.out (kk : Int) hk0 hltz
        cases e_
        rw [Int.toNat_natCast] at hx0 hx1
        replace hx0 := (BW.out.cell (World.block_lt_of_cell? w _ hx0)).trans hx0
        replace hx1 := (BW.out.cell (World.block_lt_of_cell? w _ hx1)).trans hx1
        obtain ⟨ad1, B1, d1, e_, hx2, hx3, hy1, hz1⟩ := at_T39 HR1.out (kk : Int) hk0 hltz1
        cases e_
        rw [Int.toNat_natCast] at hx2 hx3
        replace hx2 := (BW.out.cell (World.block_lt_of_cell? w _ hx2)).trans hx2
        replace hx3 := (BW.out.cell (World.block_lt_of_cell? w _ hx3)).trans hx3
        have HY := Aside0.mk hy; have HZ := Aside0.mk hz; have HY1 := Aside0.mk hy1; have HZ1 := Aside0.mk hz1
        clear hy hz hy1 hz1
        have ha2 : ∀ o, (wr.alloc o).cell? (ad1.add (kk * 2)) = some (.int .i64 (rd_T39 l1 (kk : Int)).f0) := fun o => ((below_alloc (Below.refl wr.heap.size wr) o).cell (World.block_lt_of_cell? wr _ hx2)).trans hx2
        have ha3 : ∀ o, (wr.alloc o).cell? ⟨(ad1.add (kk * 2)).block, (ad1.add (kk * 2)).off + 1, none⟩ = some (.slice B1 (rd_T39 l1 (kk : Int)).f1.length d1) := fun o => ((below_alloc (Below.refl wr.heap.size wr) o).cell (World.block_lt_of_cell? wr _ hx3)).trans hx3
        cases b with
        | true =>
          replace h := HH.out
          rw [if_pos rfl] at h
          replace HH := Aside0.mk h
          clear h
          go_wp2_with fail
          refine (IH.out gk (by omega) _ _ _ _ _ _ _ _ _ _ (Kd.C_below HZ.out (below_alloc (below_alloc BW.out _) _)) HY.out (Kd.C_below HZ1.out (below_alloc (below_alloc BW.out _) _)) HY1.out HBB.out).mono ?_
          rintro e w' ⟨rfl, hb'⟩
          go_wp2_with fail
          go_roundg gk
          case measure => omega
          case rel => exact ⟨kk + 1, by omega, by omega, by go_num, ⟨(below_alloc (below_alloc BW.out _) _).trans (hb'.mono (by have := BW.out.size; simp; omega))⟩, HH⟩
        | false =>
          replace h := HH.out
          rw [if_neg (by decide)] at h
          obtain rfl := Option.some.inj h
          clear h
          go_wp2_with fail
          refine (IH.out gk (by omega) _ _ _ _ _ _ _ _ _ _ (Kd.C_below HZ.out (below_alloc (below_alloc BW.out _) _)) HY.out (Kd.C_below HZ1.out (below_alloc (below_alloc BW.out _) _)) HY1.out HBB.out).mono ?_
          rintro e w' ⟨rfl, hb'⟩
          go_wp2_with fail
          go_ret
          exact ⟨rfl, (below_alloc (below_alloc BW.out _) _).trans (hb'.mono (by have := BW.out.size; simp; omega))⟩
      · rw [if_neg hlt] at h
        obtain rfl := Option.some.inj h
        have hltz : ¬ (kk : Int) < (l0.length : Int) := by omega
        go_wp2
        go_ret
        exact ⟨rfl, BW.out⟩
  · have hlb : ((l0.length : Int) != (l1.length : Int)) = true := by simp; omega
    have h := H.out
    rw [if_neg hl] at h
    obtain rfl := Option.some.inj h
    clear h H
    go_enter Try.func89, Try.ntmps89
    go_wp2
    go_ret
    exact ⟨rfl, Below.refl _ _⟩
set_option maxHeartbeats 1600000 in
set_option maxRecDepth 100000 in
theorem tree_Same.calls' (k : Nat) : tree_Same.Spec k := by
  induction k using Nat.strongRecOn with
  | _ k ih =>
  intro a0_0 A0_1 c0_1 l0_1 a1_0 A1_1 c1_1 l1_1 r w hr0 hc0 hr1 hc1 h
  cases k with
  | zero => exact absurd h (by simp [tree_Same.f])
  | succ k =>
  simp only [tree_Same.f] at h
  have hu39 := Try.underlying39
  have hcon := Aside0.mk (fun W (hW : Below w.heap.size w W) => fun h => equalTree.calls k (fun m hm => ih m (by omega)) A0_1 c0_1 l0_1 A1_1 c1_1 l1_1 r W (Kd.C_below hr0 hW) hc0 (Kd.C_below hr1 hW) hc1 h)
  clear ih hr0 hr1 hc0 hc1
  have H := Aside0.mk h
  clear h
  go_enter Try.func39, Try.ntmps39
  by_cases he : a0_0 = a1_0
  · have h := H.out
    rw [if_pos he] at h
    replace H := Aside0.mk h
    clear h
    have heb : (a0_0 == a1_0) = true := by simp [he]
    clear he
    go_wp2_with fail
    refine (hcon.out _ (below_alloc (below_alloc (Below.refl w.heap.size w) _) _) H.out).mono ?_
    rintro e w' ⟨rfl, hb⟩
    go_wp2_with fail
    go_ret
    exact ⟨rfl, (below_alloc (below_alloc (Below.refl w.heap.size w) _) _).trans (hb.mono (by simp; omega))⟩
  · have h := H.out
    rw [if_neg he] at h
    obtain rfl := Option.some.inj h
    have heb : (a0_0 == a1_0) = false := by simp [he]
    clear he h H
    go_wp2_with fail
    go_ret
    exact ⟨rfl, below_alloc (below_alloc (Below.refl w.heap.size w) _) _⟩
theorem tree_Same.calls (k : Nat) : ∀ (a0_0 : Int) (A0_1 : Option Addr) (c0_1 : Nat) (l0_1 : List (S39)) (a1_0 : Int) (A1_1 : Option Addr) (c1_1 : Nat) (l1_1 : List (S39)) (r : Bool) (w : World) (hr0_1 : Kd.C k39 w A0_1 l0_1.length l0_1) (hc0_1 : l0_1.length ≤ c0_1) (hr1_1 : Kd.C k39 w A1_1 l1_1.length l1_1) (hc1_1 : l1_1.length ≤ c1_1) (h : tree_Same.f k a0_0 l0_1 a1_0 l1_1 = some r),
    Calls Try.prog 39 #[.agg #[.int .i64 a0_0, .slice A0_1 l0_1.length c0_1], .agg #[.int .i64 a1_0, .slice A1_1 l1_1.length c1_1]] w fun e w' => e = .returned (.bool r) ∧ Below w.heap.size w w' := tree_Same.calls' k


end Go.Proofs.Ytdegbnjnbpjdfaa.T
