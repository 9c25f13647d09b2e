/- Go functions of this claim as Lean functions, and that each call comes to what its Lean function says; written for this claim by a program of this session (mkprint.py, over the kit's printer). Conditions: those in each theorem. -/
import Derived.Test.YtdegbnjnbpjdfaaT0
import Derived.Test.YtdegbnjnbpjdfaaT2
namespace Go.Proofs.Ytdegbnjnbpjdfaa.T
open Go.RowKit Go.Proofs.YtdegbnjnbpjdfaaW.PrintWords Go.Proofs.YtdegbnjnbpjdfaaW.PrintLast Go.Proofs.YtdegbnjnbpjdfaaW.PrintMore
attribute [local go_sem] max2_int min2_int max_two min_two max_three min_three max_four min_four   -- for this text's walks alone
set_option linter.unusedVariables false
set_option linter.unusedSimpArgs false

/-! ### tree_Read: function 31 -/
/-! #### tree.Read -/
/-- what one sign does to what is done, and to where the open ones begin -/
def readStep (c : Int) (d : List S39) (f : List Int) : Option (List S39 × List Int) :=
  if c = 40 then some (d, f ++ [(d.length : Int)])
  else if 48 ≤ c ∧ c < 52 then some (d ++ [⟨c - 48, []⟩], f)
  else if c = 41 ∧ 0 < f.length ∧ (d.length : Int) = rd f ((f.length - 1 : Nat) : Int) + 2 then
    some (d.take (d.length - 2) ++ [⟨0, [rd_T39 d ((d.length - 2 : Nat) : Int), rd_T39 d ((d.length - 2 + 1 : Nat) : Int)]⟩], f.take (f.length - 1))
  else none
def readGo (s : ByteArray) : Nat → Nat → List S39 → List Int → Option (List S39 × List Int)
  | 0, _, d, f => some (d, f)
  | n + 1, p, d, f => if p < s.size then (readStep ((Utf8.decode s p).1 : Int) d f).bind fun x => readGo s n (p + (Utf8.decode s p).2) x.1 x.2 else some (d, f)
def tree_Read.f (k : Nat) (s : ByteArray) : Option (Int × List S39 × Bool) :=
  if s.size < 1099511627776 then
    match readGo s s.size 0 [] [] with
    | none => some (0, [], false)
    | some (d, f) => if d.length = 1 ∧ f.length = 0 then (tree_May.f k (rd_T39 d 0).f0 (rd_T39 d 0).f1).bind fun m => if m = true then some ((rd_T39 d 0).f0, (rd_T39 d 0).f1, true) else some (0, [], false) else some (0, [], false)
  else none
theorem tree_Read.mono : ∀ a0 k, LeO (tree_Read.f k a0) (tree_Read.f (k + 1) a0) := by
  intro a0 k
  unfold tree_Read.f
  refine LeO.ite ?_ (LeO.none _)
  cases readGo a0 a0.size 0 [] [] with
  | none => exact LeO.refl _
  | some x => exact LeO.ite (LeO.bind (tree_May.mono _ _ _) (fun _ => LeO.refl _)) (LeO.refl _)
/-- the iterator's block -/
structure RdSt (w wr : World) (s : ByteArray) (pos : Nat) (d : List S39) (f : List Int) (v4 v5 : Value) : Prop where
  it : wr.heap[w.heap.size + 1]? = some (.stringIter s pos)
  res : wr.heap[w.heap.size]? = some (.cells #[.int .i64 0, .slice none 0 0] 39 (0, 0))
  hd : Kd.N k39 39 wr w.heap.size (fun k => w.heap.size + 2 ≤ k ∧ some k ≠ v5.ownBlock) v4 d
  hf : Kd.R (Kd.int .i64) 3 wr w.heap.size (fun k => w.heap.size + 2 ≤ k ∧ some k ≠ v4.ownBlock) v5 f
  be : Below w.heap.size w wr
theorem RdSt.lt {w wr : World} {s pos d f v4 v5} (h : RdSt w wr s pos d f v4 v5) : w.heap.size + 2 ≤ wr.heap.size := blk_lt h.it
theorem RdSt.below {w wr w1 : World} {s pos d f v4 v5} (h : RdSt w wr s pos d f v4 v5) (hb : Below wr.heap.size wr w1) : RdSt w w1 s pos d f v4 v5 :=
  ⟨blk_below h.it hb, blk_below h.res hb, Kd.N_below h.hd hb, Kd.R_below h.hf hb, h.be.trans (hb.mono h.be.size)⟩
theorem RdSt.step {w wr : World} {s pos d f v4 v5} (h : RdSt w wr s pos d f v4 v5) (p : Nat) : RdSt w (wr.iterAt (w.heap.size + 1) s p) s p d f v4 v5 :=
  ⟨Lib.iterAt_heap _ _ _ _ _ h.it, by rw [Lib.iterAt_other _ _ _ _ _ (by omega)]; exact h.res, Kd.N_step h.hd (fun k hk _ => Lib.iterAt_other _ _ _ _ _ (by omega)), Kd.R_step h.hf (fun k hk _ => Lib.iterAt_other _ _ _ _ _ (by omega)), Lib.below_iterAt h.be (by omega) _ _⟩
/-- behind an append to the row of numbers -/
theorem RdSt.from {w wr w1 : World} {s pos d f v4 v5 v1} {f1 : List Int} (h : RdSt w wr s pos d f v4 v5) (hr : Kd.R (Kd.int .i64) 3 w1 w.heap.size (fun k => w.heap.size + 2 ≤ k ∧ some k ≠ v4.ownBlock) v1 f1) (hb : Below w.heap.size w w1) (hg : wr.grownBy w1 v5.ownBlock) (hat : v1.ownBlock = v5.ownBlock ∨ ∃ b, v1.ownBlock = some b ∧ wr.heap.size ≤ b) : RdSt w w1 s pos d f1 v4 v1 := by
  have hne : ∀ k, k < w.heap.size + 2 → some k ≠ v5.ownBlock := fun k hk e => by have := h.hf.1 k e.symm; omega
  exact ⟨blk_grown h.it hg (hne _ (by omega)), blk_grown h.res hg (hne _ (by omega)), Kd.N_after h.hd hg hat, hr, hb⟩
/-- behind an append to the row of trees -/
theorem RdSt.done {w wr w1 : World} {s pos d f v4 v5 v1} {d1 : List S39} (h : RdSt w wr s pos d f v4 v5) (hr : Kd.N k39 39 w1 w.heap.size (fun k => w.heap.size + 2 ≤ k ∧ some k ≠ v5.ownBlock) v1 d1) (hb : Below w.heap.size w w1) (hg : wr.grownBy w1 v4.ownBlock) (hat : v1.ownBlock = v4.ownBlock ∨ ∃ b, v1.ownBlock = some b ∧ wr.heap.size ≤ b) : RdSt w w1 s pos d1 f v1 v5 := by
  have hne : ∀ k, k < w.heap.size + 2 → some k ≠ v4.ownBlock := fun k hk e => by have := h.hd.1 k e.symm; omega
  exact ⟨blk_grown h.it hg (hne _ (by omega)), blk_grown h.res hg (hne _ (by omega)), hr, Kd.R_after h.hf hg hat, hb⟩
theorem RdSt.cutF {w wr : World} {s pos d f v4} {A : Option Addr} {n m c : Nat} (h : RdSt w wr s pos d f v4 (.slice A n c)) (hm : m ≤ f.length) : RdSt w wr s pos d (f.take m) v4 (.slice A m c) := by
  have hb : (Value.slice A m c).ownBlock = (Value.slice A n c).ownBlock := by cases A <;> rfl
  exact ⟨h.it, h.res, by rw [hb]; exact h.hd, Kd.R_take h.hf hm, h.be⟩
theorem RdSt.cutD {w wr : World} {s pos d f v5} {A : Option Addr} {n m c : Nat} (h : RdSt w wr s pos d f (.slice A n c) v5) (hm : m ≤ d.length) : RdSt w wr s pos (d.take m) f (.slice A m c) v5 := by
  have hb : (Value.slice A m c).ownBlock = (Value.slice A n c).ownBlock := by cases A <;> rfl
  exact ⟨h.it, h.res, Kd.N_take h.hd hm, by rw [hb]; exact h.hf, h.be⟩
theorem s39_eta (x : S39) : (⟨x.f0, x.f1⟩ : S39) = x := by cases x; rfl
def tree_Read.T13 : Bool × List (List Nat × List Nat) := (true, [([], []), ([], []), ([0, 1], [0, 1]), ([], []), ([], []), ([3, 4], [3, 4]), ([5], [5]), ([], []), ([], []), ([8], [8]), ([7, 9], [7, 9]), ([10], [10]), ([6, 11], [6, 11]), ([12], [12]), ([2, 13, 12], [2, 13]), ([14, 14, 0, 1, 2, 3, 4, 5, 6, 7, 8, 9, 10, 11, 12, 13, 14], [0, 3, 7, 14])])
def tree_Read.B13 : List Nat := [0, 0, 3, 0, 0, 24, 56, 0, 0, 256, 896, 1920, 4088, 8184, 16383, 32767]
theorem tree_Read.tab13 : rtab .any (opsOf Try.f31 13) = tree_Read.T13 := by kernel_rfl
theorem tree_Read.bits13 : waitsOk tree_Read.T13.2 tree_Read.B13 = true := by kernel_rfl
theorem RdSt.iterNe {w wr : World} {s pos d f v4 v5} (h : RdSt w wr s pos d f v4 v5) : wr.iterPos (w.heap.size + 1) = pos := by simp [World.iterPos, h.it]
def rdRes : Option (List S39 × List Int) → Option (List S39 × List Int) := id
set_option maxHeartbeats 4000000 in
set_option maxRecDepth 100000 in
theorem tree_Read.calls (k : Nat) (a0 : ByteArray) (r1 : Int) (r2 : List S39) (r3 : Bool) (w : World) (h : tree_Read.f k a0 = some (r1, r2, r3)) :
    Calls Try.prog 31 #[.string a0] w fun e w' => ∃ v1_ : Value, e = .returned (.tuple #[.agg #[.int .i64 r1, v1_], .bool r3]) ∧ Kd.V k39 39 w' w.heap.size (fun k_ => (w.heap.size ≤ k_)) v1_ r2 ∧ Below w.heap.size w w' := by
  unfold tree_Read.f at h
  by_cases hsz : a0.size < 1099511627776
  case neg => rw [if_neg hsz] at h; cases h
  rw [if_pos hsz] at h
  have hu39 := Try.underlying39
  have H := Aside0.mk h
  have HSZ := Aside0.mk hsz
  clear h hsz
  go_enter Try.func31, Try.ntmps31
  go_wp2_with fail
  go_loopg [4, 5] a0.size (fun gg v4 v5 wr => ∃ (pos : Nat) (d : List S39) (f : List Int), Aside0 (readGo a0 gg pos d f = readGo a0 a0.size 0 [] []) ∧ Aside0 (a0.size ≤ pos + gg ∧ d.length + gg ≤ a0.size ∧ f.length + gg ≤ a0.size ∧ ∀ x ∈ f, 0 ≤ x ∧ x ≤ 1099511627776) ∧ Aside0 (RdSt w wr a0 pos d f v4 v5))
  case atStart =>
    refine ⟨0, [], [], ⟨rfl⟩, ⟨by omega, by simp, by simp, by simp⟩, ⟨?_⟩⟩
    refine ⟨by simpa using World.iter_heap (w.alloc (.cells #[.int .i64 0, .slice none 0 0] 39 (0, 0))) a0 0, blk_alloc (blk_new w _) (.stringIter a0 0), Kd.N_nil _ _ _ _ _, Kd.R_nil _ _ _ _ _, below_alloc (below_alloc (Below.refl _ _) _) (.stringIter a0 0)⟩
  case round =>
    obtain ⟨pos, d, f, HG, HI, HS⟩ := hrel
    obtain ⟨A4, c4, rfl⟩ := Kd.N_slice HS.out.hd
    obtain ⟨A5, c5, rfl⟩ := Kd.R_slice HS.out.hf
    by_cases hp : pos < a0.size
    · have hnx : ∀ ty, (Instr.next (.pointer (some ⟨w.heap.size + 1, 0, none⟩)) true ty).run Try.prog wr = _ := fun ty => Lib.run_next_any_at wr (w.heap.size + 1) a0 pos ty HS.out.it hp
      obtain ⟨gk, rfl⟩ : ∃ f', gk = f' + 1 := ⟨gk - 1, by have := HI.out.1; omega⟩
      have hg := HG.out
      simp only [readGo] at hg
      rw [if_pos hp] at hg
      have HS1 := Aside0.mk (HS.out.step (pos + (Utf8.decode a0 pos).2))
      have hwd := Lib.width_pos a0 pos
      have hcb := decode_le a0 pos
      have HI1 : Aside0 (a0.size ≤ pos + (Utf8.decode a0 pos).2 + gk ∧ d.length + 1 + gk ≤ a0.size ∧ f.length + 1 + gk ≤ a0.size ∧ (∀ x ∈ f, 0 ≤ x ∧ x ≤ 1099511627776) ∧ a0.size < 1099511627776) := by
        have h1 := HI.out; have h2 := HSZ.out
        exact ⟨⟨by omega, by omega, by omega, h1.2.2.2, h2⟩⟩
      generalize (Utf8.decode a0 pos).2 = wd at hnx hg HS1 HI1 hwd
      generalize hpw : pos + wd = pw at hnx hg HS1 HI1
      obtain ⟨W1, hW1⟩ : ∃ W1, W1 = wr.iterAt (w.heap.size + 1) a0 pw := ⟨_, rfl⟩
      rw [← hW1] at hnx HS1
      generalize hc : ((Utf8.decode a0 pos).1 : Int) = c at hnx hg
      have hc0 : 0 ≤ c := by omega
      have hc1 : c ≤ 2147483647 := by omega
      clear hW1 hc hcb HS HG HI
      by_cases h40 : c = 40
      · have hb40 : (c == 40) = true := by simp [h40]
        have hst : readStep c d f = some (d, f ++ [(d.length : Int)]) := by unfold readStep; rw [if_pos h40]
        rw [hst, Option.bind_some] at hg
        have HG := Aside0.mk hg
        clear hg hst
        go_wp2_with (first | (at_builtin; refine Kd.R_append (Kd.int .i64) (w0 := w) w.heap.size rfl (.tmp 18) (.tmp 21) 29 3 (.int .i64 0) 8 rfl Try.underlying29 info3 rfl (by decide) (by omega) (.slice A5 f.length c5) f (d.length : Int) [.int .i64 (d.length : Int)] (fun k => w.heap.size + 2 ≤ k ∧ some k ≠ (Value.slice A4 d.length c4).ownBlock) (fun _ => False) rfl rfl rfl (fun _ hk => hk.elim) ?aF HS1.out.hf HS1.out.be ?aS ?aL ?_; (case aF => exact fun k_ hk => ⟨Nat.le_trans HS1.out.lt hk, Kd.fresh' (Kd.N_lt HS1.out.hd) k_ hk⟩); (case aS => exact Nat.le_trans (by omega) HS1.out.lt); (case aL => have := HI1.out; omega); intro v1 w1 ho hb hg hat; have HS2 := Aside0.mk (HS1.out.from ho hb hg hat); clear ho hb hg hat))
        go_roundg gk
        case measure => omega
        case rel =>
          refine ⟨pw, d, f ++ [(d.length : Int)], HG, ⟨?_⟩, HS2⟩
          have hi := HI1.out
          simp only [List.length_append, List.length_singleton]
          refine ⟨by omega, by omega, by omega, fun x hx => ?_⟩
          rcases List.mem_append.1 hx with hx | hx
          · exact hi.2.2.2.1 x hx
          · rw [List.mem_singleton.1 hx]; omega
      · have hb40 : (c == 40) = false := by simp [h40]
        by_cases h48 : 48 ≤ c ∧ c < 52
        · have hb48 : decide (48 ≤ c) = true := by simp [h48.1]
          have hb52 : decide (c < 52) = true := by simp [h48.2]
          have hst : readStep c d f = some (d ++ [⟨c - 48, []⟩], f) := by unfold readStep; rw [if_neg h40, if_pos h48]
          rw [hst, Option.bind_some] at hg
          have HG := Aside0.mk hg
          obtain ⟨h48a, h48b⟩ := h48
          have hw32 : IntKind.i32.wrap (c - 48) = c - 48 := by rw [IntKind.wrap_i32]; omega
          have hw64 : IntKind.i64.wrap (c - 48) = c - 48 := by rw [IntKind.wrap_i64]; omega
          clear hg hst
          go_wp2_with fail
          refine (tree_Leaf.calls (c - 48) (c - 48) [] _ rfl).mono ?_
          rintro e W2 ⟨v1_, rfl, hR, hb⟩
          obtain ⟨A6, c6, rfl⟩ := Kd.R_slice hR
          have HR := Aside0.mk (Kd.R_mono (ok' := fun k => W1.heap.size ≤ k) (Kd.R_bound hR) (fun k hk => hk.2.1))
          have HS2 := Aside0.mk (HS1.out.below hb)
          have HO := Aside0.mk (show ∀ k, W1.heap.size ≤ k → (w.heap.size + 2 ≤ k ∧ some k ≠ (Value.slice A5 f.length c5).ownBlock) ∧ some k ≠ (Value.slice A4 d.length c4).ownBlock from fun k hk => ⟨⟨Nat.le_trans HS1.out.lt hk, Kd.fresh' (Kd.R_lt HS1.out.hf) k hk⟩, Kd.fresh' (Kd.N_lt HS1.out.hd) k hk⟩)
          have hsz2 := hb.size
          clear hR hb
          go_wp2_with (first | (at_builtin; refine Kd.N_append k39 (w0 := w) w.heap.size rfl (.tmp 30) (.tmp 35) 37 39 (.agg #[(.int .i64 0), (.slice none 0 0)]) 32 rfl Try.underlying37 info39 rfl (by decide) (by omega) (.slice A4 d.length c4) d (⟨c - 48, []⟩ : S39) [.int .i64 (c - 48), .slice A6 0 c6] (fun k => w.heap.size + 2 ≤ k ∧ some k ≠ (Value.slice A5 f.length c5).ownBlock) (fun k => W1.heap.size ≤ k) rfl rfl ?aP HO.out ?aF HS2.out.hd HS2.out.be ?aS ?aL ?_; (case aP => exact k39_mkF _ _ (⟨c - 48, []⟩ : S39) (Kd.R_reads' HR.out).2.1 (Kd.R_F HR.out)); (case aF => exact fun k_ hk => (HO.out k_ (Nat.le_trans hsz2 hk)).1); (case aS => exact Nat.le_trans (by omega) HS2.out.lt); (case aL => have := HI1.out; omega); intro v1 w1 ho hb hg hat; have HS3 := Aside0.mk (HS2.out.done ho hb hg hat); clear ho hb hg hat))
          go_roundg gk
          case measure => omega
          case rel =>
            refine ⟨pw, d ++ [⟨c - 48, []⟩], f, HG, ⟨?_⟩, HS3⟩
            have hi := HI1.out
            simp only [List.length_append, List.length_singleton]
            exact ⟨by omega, by omega, by omega, hi.2.2.2.1⟩
        · by_cases h52 : 52 ≤ c
          · have hb48 : decide (48 ≤ c) = true := decide_eq_true (by omega)
            have hb52 : decide (c < 52) = false := decide_eq_false (by omega)
            have hb41 : (c == 41) = false := by simp; omega
            have hst : readStep c d f = none := by unfold readStep; rw [if_neg h40, if_neg h48, if_neg (fun e => by omega)]
            rw [hst] at hg
            have h := H.out
            rw [← hg] at h
            simp only [Option.bind_none, Option.some.injEq, Prod.mk.injEq] at h
            obtain ⟨rfl, rfl, rfl⟩ := h
            clear H hg hst
            have GE := Nat.le_refl w.heap.size
            have BK := Aside0.mk HS1.out.res
            have hz0 : _ = some (Value.int .i64 0) := (blk_cell BK.out 0).trans rfl
            have hz1 : _ = some (Value.slice none 0 0) := (blk_cell BK.out 1).trans rfl
            have hf0 := blk_frozen BK.out 0
            have hf1 := blk_frozen BK.out 1
            go_wp2_with fail
            refine bodyPost_ret (results_ct rfl _ _ w.heap.size 39 #[.int .i64 0, .slice none 0 0] (0, 0) _ rfl (by refine blk_put (cs := #[.int .i64 0, .slice none 0 0]) ?_ 1 _ rfl; refine blk_put (cs := #[.int .i64 0, .slice none 0 0]) ?_ 0 _ rfl; exact BK.out) Try.underlying39 rfl (by kernel_rfl)) rfl ?_
            exact ⟨_, rfl, Kd.V_nil _ _ _ _ _, below_set (below_set HS1.out.be GE) GE⟩
          · have hb48 : decide (48 ≤ c) = false := decide_eq_false (by omega)
            by_cases h41 : c = 41
            · have hb41 : (c == 41) = true := by simp [h41]
              by_cases hf0n : f.length = 0
              · have hfb : decide ((0 : Int) < (f.length : Int)) = false := decide_eq_false (by omega)
                have hfc : ¬ (0 : Int) < (f.length : Int) := by omega
                have hst : readStep c d f = none := by unfold readStep; rw [if_neg h40, if_neg h48, if_neg (fun e => by omega)]
                rw [hst] at hg
                have h := H.out
                rw [← hg] at h
                simp only [Option.bind_none, Option.some.injEq, Prod.mk.injEq] at h
                obtain ⟨rfl, rfl, rfl⟩ := h
                clear H hg hst
                have GE := Nat.le_refl w.heap.size
                have BK := Aside0.mk HS1.out.res
                have hz0 : _ = some (Value.int .i64 0) := (blk_cell BK.out 0).trans rfl
                have hz1 : _ = some (Value.slice none 0 0) := (blk_cell BK.out 1).trans rfl
                have hf0 := blk_frozen BK.out 0
                have hf1 := blk_frozen BK.out 1
                go_wp2_with fail
                refine bodyPost_ret (results_ct rfl _ _ w.heap.size 39 #[.int .i64 0, .slice none 0 0] (0, 0) _ rfl (by refine blk_put (cs := #[.int .i64 0, .slice none 0 0]) ?_ 1 _ rfl; refine blk_put (cs := #[.int .i64 0, .slice none 0 0]) ?_ 0 _ rfl; exact BK.out) Try.underlying39 rfl (by kernel_rfl)) rfl ?_
                exact ⟨_, rfl, Kd.V_nil _ _ _ _ _, below_set (below_set HS1.out.be GE) GE⟩
              · obtain ⟨m, hm⟩ : ∃ m, f.length = m + 1 := ⟨f.length - 1, by omega⟩
                have hfc : (0 : Int) < (m : Int) + 1 := by omega
                have hi := HI1.out
                obtain ⟨ad5, e5, hx5⟩ := Kd.at_int (Kd.R_reads' HS1.out.hf).2.2 (m : Int) (by omega) (by omega)
                cases e5
                rw [Int.toNat_natCast] at hx5
                have hr := hi.2.2.2.1 (rd f (m : Int)) (by unfold rd; rw [Int.toNat_natCast, List.getD_eq_getElem?_getD, List.getElem?_eq_getElem (by omega)]; exact List.getElem_mem _)
                generalize hx : rd f (m : Int) = x at hx5 hr
                have hwm : IntKind.i64.wrap (m : Int) = (m : Int) := by rw [IntKind.wrap_i64]; omega
                have hwx : IntKind.i64.wrap (x + 2) = x + 2 := by rw [IntKind.wrap_i64]; omega
                clear hi
                simp only [hm] at HS1
                by_cases hq : (d.length : Int) = x + 2
                · have hqb : ((d.length : Int) == x + 2) = true := by simp [hq]
                  obtain ⟨x1, hx1⟩ : ∃ x1 : Int, x1 = x + 1 := ⟨_, rfl⟩
                  have hst : readStep c d f = some (d.take x.toNat ++ [⟨0, [rd_T39 d x, rd_T39 d x1]⟩], f.take m) := by
                    have hxn : d.length - 2 = x.toNat := by omega
                    unfold readStep
                    rw [if_neg h40, if_neg h48, if_pos ⟨h41, by omega, by rw [hm, Nat.add_sub_cancel, hx]; exact hq⟩, hm, Nat.add_sub_cancel, hxn, show ((x.toNat : Nat) : Int) = x by omega, show ((x.toNat + 1 : Nat) : Int) = x1 by omega]
                  rw [hst, Option.bind_some] at hg
                  have HG := Aside0.mk hg
                  clear hg hst hx
                  have hwd : IntKind.i64.wrap ((d.length : Int) - 2) = x := by rw [IntKind.wrap_i64]; omega
                  have hwq1 : IntKind.i64.wrap (x + 1) = x1 := by rw [IntKind.wrap_i64]; omega
                  have p0 : 0 ≤ x := by omega
                  have q0 : x < (d.length : Int) := by omega
                  have p1 : 0 ≤ x1 := by omega
                  have q1 : x1 < (d.length : Int) := by omega
                  obtain ⟨ad, A7, c7, e7, hx0, hx1', hl7, hC7⟩ := at_T39 (Kd.N_reads' HS1.out.hd).2.2 x p0 q0
                  cases e7
                  obtain ⟨ad', A8, c8, e8, hx2, hx3, hl8, hC8⟩ := at_T39 (Kd.N_reads' HS1.out.hd).2.2 x1 p1 q1
                  obtain rfl : ad = ad' := by injection e8
                  obtain ⟨ce, hce, hF, hcc⟩ := Kd.N_get HS1.out.hd z39 x p0 q0
                  obtain ⟨B7, b7, rfl, ul7, ge7⟩ := k39_openF hF
                  have hv7 := hcc 1 _ rfl
                  rw [add_field _ _ 1 (by omega)] at hv7
                  replace hv7 := Option.some.inj (hv7.symm.trans hx1')
                  injection hv7 with hva_ hvn_ hvc_
                  rw [hva_] at ge7
                  rw [hvc_] at ul7
                  have HV0 := Aside0.mk (show Kd.V k39 39 _ w.heap.size _ _ ((rd_T39 d x).f1) from Kd.V_mk ul7 ge7)
                  clear hva_ hvn_ hvc_ ge7 ul7 hcc hce hF
                  obtain ⟨ce, hce, hF, hcc⟩ := Kd.N_get HS1.out.hd z39 x1 p1 q1
                  obtain ⟨B8, b8, rfl, ul8, ge8⟩ := k39_openF hF
                  have hv8 := hcc 1 _ rfl
                  rw [add_field _ _ 1 (by omega)] at hv8
                  replace hv8 := Option.some.inj (hv8.symm.trans hx3)
                  injection hv8 with hva_ hvn_ hvc_
                  rw [hva_] at ge8
                  rw [hvc_] at ul8
                  have HV1 := Aside0.mk (show Kd.V k39 39 _ w.heap.size _ _ ((rd_T39 d x1).f1) from Kd.V_mk ul8 ge8)
                  clear hva_ hvn_ hvc_ ge8 ul8 hcc hce hF hl7 hC7 hl8 hC8 e8
                  have hqc : x ≤ (c4 : Int) := by have := (Kd.N_reads' HS1.out.hd).2.1; omega
                  have hdl : x.toNat ≤ d.length := by omega
                  have hml : m ≤ f.length := by omega
                  have hmc : m ≤ c5 := by have := (Kd.R_reads' HS1.out.hf).2.1; omega
                  have hmz : (m : Int) ≤ (c5 : Int) := by omega
                  have HX := Aside0.mk (show x1 = x + 1 ∧ (d.length : Int) = x + 2 ∧ f.length = m + 1 from ⟨hx1, hq, hm⟩)
                  clear hq hx1
                  go_wp2_with fail
                  refine start_ (n := 16) (S := fun w' => w'.cell? (ad.add (x.toNat * 2)) = some (.int .i64 ((rd_T39 d x).f0)) ∧ w'.cell? ⟨(ad.add (x.toNat * 2)).block, (ad.add (x.toNat * 2)).off + 1, none⟩ = some (.slice A7 ((rd_T39 d x).f1).length c7) ∧ w'.cell? (ad.add (x1.toNat * 2)) = some (.int .i64 ((rd_T39 d x1).f0)) ∧ w'.cell? ⟨(ad.add (x1.toNat * 2)).block, (ad.add (x1.toNat * 2)).off + 1, none⟩ = some (.slice A8 ((rd_T39 d x1).f1).length c8)) (ds := [13, 14]) #[false, false, false, false, false, false, false, false, false, false, false, false, false, false, false, false] (by kernel_rfl) rfl rfl ⟨hx0, hx1', hx2, hx3⟩ (fun hHeld => ?_); refine with_tabW tree_Read.tab13 tree_Read.bits13 (fun HT_ HW_ => ?_)
                  have HS2 := Aside0.mk (HS1.out.below (below_drew1 (Below.refl _ _)))
                  have HV2 := Aside0.mk (Kd.V_drew HV0.out)
                  have HV3 := Aside0.mk (Kd.V_drew HV1.out)
                  clear HV0 HV1 HS1 hx0 hx1' hx2 hx3
                  generalize W1.drew = W2 at HS2 HV2 HV3 hHeld ⊢
                  refine pure_ (i := 0) (N := some 60) (v := ?_) (a' := ?_) #[true, false, false, false, false, false, false, false, false, false, false, false, false, false, false, false] rfl rfl (any_of HT_.out (by kernel_rfl)) (fun _ _ _ h => h) (Or.inl ⟨by rfl, ?_⟩) ?_ ?_
                  rotate_left
                  · intro w'
                    go_simp
                    with_reducible rfl
                  rotate_left
                  · simp only [Act.put, List.setIfInBounds_toArray, List.set_cons_zero, List.set_cons_succ, i64_w, i32_w]
                    rfl
                  refine pure_ (i := 1) (N := some 61) (v := ?_) (a' := ?_) #[true, true, false, false, false, false, false, false, false, false, false, false, false, false, false, false] rfl rfl (any_of HT_.out (by kernel_rfl)) (fun _ _ _ h => h) (Or.inl ⟨by rfl, ?_⟩) ?_ ?_
                  rotate_left
                  · intro w'
                    go_simp
                    with_reducible rfl
                  rotate_left
                  · simp only [Act.put, List.setIfInBounds_toArray, List.set_cons_zero, List.set_cons_succ, i64_w, i32_w]
                    rfl
                  refine pure_ (i := 2) (N := some 62) (v := ?_) (a' := ?_) #[true, true, true, false, false, false, false, false, false, false, false, false, false, false, false, false] rfl rfl (any_of HT_.out (by kernel_rfl)) (fun _ _ _ h => h) (Or.inl ⟨by rfl, ?_⟩) ?_ ?_
                  rotate_left
                  · intro w'
                    go_simp
                    with_reducible rfl
                  rotate_left
                  · simp only [Act.put, List.setIfInBounds_toArray, List.set_cons_zero, List.set_cons_succ, i64_w, i32_w]
                    rfl
                  refine pure_ (i := 3) (N := some 63) (v := ?_) (a' := ?_) #[true, true, true, true, false, false, false, false, false, false, false, false, false, false, false, false] rfl rfl (any_of HT_.out (by kernel_rfl)) (fun _ _ _ h => h) (Or.inl ⟨by rfl, ?_⟩) ?_ ?_
                  rotate_left
                  · intro w'
                    go_simp
                    with_reducible rfl
                  rotate_left
                  · simp only [Act.put, List.setIfInBounds_toArray, List.set_cons_zero, List.set_cons_succ, i64_w, i32_w]
                    rfl
                  refine pure_ (i := 4) (N := some 64) (v := ?_) (a' := ?_) #[true, true, true, true, true, false, false, false, false, false, false, false, false, false, false, false] rfl rfl (any_of HT_.out (by kernel_rfl)) (fun _ _ _ h => h) (Or.inl ⟨by rfl, ?_⟩) ?_ ?_
                  rotate_left
                  · intro w'
                    go_simp
                    with_reducible rfl
                  rotate_left
                  · simp only [Act.put, List.setIfInBounds_toArray, List.set_cons_zero, List.set_cons_succ, i64_w, i32_w]
                    rfl
                  refine pure_ (i := 5) (N := some 65) (v := ?_) (a' := ?_) #[true, true, true, true, true, true, false, false, false, false, false, false, false, false, false, false] rfl rfl (any_of HT_.out (by kernel_rfl)) (fun _ _ _ h => h) (Or.inl ⟨by rfl, ?_⟩) ?_ ?_
                  rotate_left
                  · intro w'
                    go_simp
                    with_reducible rfl
                  rotate_left
                  · simp only [Act.put, List.setIfInBounds_toArray, List.set_cons_zero, List.set_cons_succ, i64_w, i32_w]
                    rfl
                  refine pure_ (i := 7) (N := some 67) (v := ?_) (a' := ?_) #[true, true, true, true, true, true, false, true, false, false, false, false, false, false, false, false] rfl rfl (any_of HT_.out (by kernel_rfl)) (fun _ _ _ h => h) (Or.inl ⟨by rfl, ?_⟩) ?_ ?_
                  rotate_left
                  · intro w'
                    go_simp
                    with_reducible rfl
                  rotate_left
                  · simp only [Act.put, List.setIfInBounds_toArray, List.set_cons_zero, List.set_cons_succ, i64_w, i32_w]
                    rfl
                  refine pure_ (i := 8) (N := some 68) (v := ?_) (a' := ?_) #[true, true, true, true, true, true, false, true, true, false, false, false, false, false, false, false] rfl rfl (any_of HT_.out (by kernel_rfl)) (fun _ _ _ h => h) (Or.inl ⟨by rfl, ?_⟩) ?_ ?_
                  rotate_left
                  · intro w'
                    go_simp
                    with_reducible rfl
                  rotate_left
                  · simp only [Act.put, List.setIfInBounds_toArray, List.set_cons_zero, List.set_cons_succ, i64_w, i32_w]
                    rfl
                  refine pure_ (i := 9) (N := some 69) (v := ?_) (a' := ?_) #[true, true, true, true, true, true, false, true, true, true, false, false, false, false, false, false] rfl rfl (any_of HT_.out (by kernel_rfl)) (fun _ _ _ h => h) (Or.inl ⟨by rfl, ?_⟩) ?_ ?_
                  rotate_left
                  · intro w'
                    go_simp
                    with_reducible rfl
                  rotate_left
                  · simp only [Act.put, List.setIfInBounds_toArray, List.set_cons_zero, List.set_cons_succ, i64_w, i32_w]
                    rfl
                  refine pure_ (i := 10) (N := some 70) (v := ?_) (a' := ?_) #[true, true, true, true, true, true, false, true, true, true, true, false, false, false, false, false] rfl rfl (any_of HT_.out (by kernel_rfl)) (fun _ _ _ h => h) (Or.inl ⟨by rfl, ?_⟩) ?_ ?_
                  rotate_left
                  · intro w'
                    go_simp
                    with_reducible rfl
                  rotate_left
                  · simp only [Act.put, List.setIfInBounds_toArray, List.set_cons_zero, List.set_cons_succ, i64_w, i32_w]
                    rfl
                  refine take_ (i := 6) (N := some 66) (v := ?_) (a' := ?_) #[true, true, true, true, true, true, true, true, true, true, true, false, false, false, false, false] rfl rfl (take_ofW HT_.out HW_.out (by kernel_rfl)) (fun _ _ _ h => h) (Or.inl ⟨by rfl, ?_⟩) hHeld ?_ ?_
                  rotate_left
                  · rintro w' ⟨s0, s1, s2, s3⟩
                    go_simp
                    with_reducible rfl
                  rotate_left
                  · simp only [Act.put, List.setIfInBounds_toArray, List.set_cons_zero, List.set_cons_succ, i64_w, i32_w]
                    rfl
                  refine take_ (i := 11) (N := some 71) (v := ?_) (a' := ?_) #[true, true, true, true, true, true, true, true, true, true, true, true, false, false, false, false] rfl rfl (take_ofW HT_.out HW_.out (by kernel_rfl)) (fun _ _ _ h => h) (Or.inl ⟨by rfl, ?_⟩) hHeld ?_ ?_
                  rotate_left
                  · rintro w' ⟨s0, s1, s2, s3⟩
                    go_simp
                    with_reducible rfl
                  rotate_left
                  · simp only [Act.put, List.setIfInBounds_toArray, List.set_cons_zero, List.set_cons_succ, i64_w, i32_w]
                    rfl
                  refine one_ (i := 12) (N := some 72) #[true, true, true, true, true, true, true, true, true, true, true, true, true, false, false, false] rfl rfl (one_of HT_.out (by kernel_rfl)) (by decide) (fun K hK => ?_)
                  refine goes_ Try.func44 (by kernel_rfl) rfl #[.agg #[.int .i64 ((rd_T39 d x).f0), .slice A7 ((rd_T39 d x).f1).length c7], .agg #[.int .i64 ((rd_T39 d x1).f0), .slice A8 ((rd_T39 d x1).f1).length c8]] (by rfl) rfl rfl (by (try simp only [List.map_toArray, List.map_cons, List.map_nil]); first | done | rfl | (simp only [List.length_drop, List.length_take]; rfl)) ?_
                  refine (tree_Join.calls ((rd_T39 d x).f0) (fun k_ => (w.heap.size + 2 ≤ k_ ∧ some k_ ≠ (Value.slice (some ad5) (m + 1) c5).ownBlock) ∧ some k_ ≠ (Value.slice (some ad) d.length c4).ownBlock) _ _ ((rd_T39 d x).f1) ((rd_T39 d x1).f0) (fun k_ => (w.heap.size + 2 ≤ k_ ∧ some k_ ≠ (Value.slice (some ad5) (m + 1) c5).ownBlock) ∧ some k_ ≠ (Value.slice (some ad) d.length c4).ownBlock) _ _ ((rd_T39 d x1).f1) 0 [rd_T39 d x, rd_T39 d x1] _ ?side1 ?side2 (by unfold tree_Join.f; rw [s39_eta, s39_eta])).mono ?_
                  case side1 => exact HV2.out
                  case side2 => exact HV3.out
                  rintro e W3 ⟨v3, rfl, ho0, hb⟩
                  have HS0_ := (hb.cell (World.block_lt_of_cell? _ _ (hHeld.1))).trans (hHeld.1)
                  have HS1_ := (hb.cell (World.block_lt_of_cell? _ _ (hHeld.2.1))).trans (hHeld.2.1)
                  have HS2_ := (hb.cell (World.block_lt_of_cell? _ _ (hHeld.2.2.1))).trans (hHeld.2.2.1)
                  have HS3_ := (hb.cell (World.block_lt_of_cell? _ _ (hHeld.2.2.2))).trans (hHeld.2.2.2)
                  refine ⟨_, rfl, ?_⟩
                  obtain ⟨A10, c10, rfl⟩ := Kd.N_slice ho0
                  have HO3 := Aside0.mk (Kd.N_mono (ok' := (fun k_ => (w.heap.size + 2 ≤ k_ ∧ some k_ ≠ (Value.slice (some ad5) (m + 1) c5).ownBlock) ∧ some k_ ≠ (Value.slice (some ad) d.length c4).ownBlock)) ho0 (fun k_ hk_ => hk_.elim (fun hs_ => hs_.elim id id) (fun hn_ => ⟨⟨Nat.le_trans HS2.out.lt hn_, Kd.fresh' (Kd.R_lt HS2.out.hf) k_ hn_⟩, Kd.fresh' (Kd.N_lt HS2.out.hd) k_ hn_⟩)))
                  have HS3 := Aside0.mk ((HS2.out.below hb).cutD hdl)
                  clear ho0 hb HS2 HV2 HV3
                  refine hK.out _ _ ⟨HS0_, HS1_, HS2_, HS3_⟩ (fun hHeld => ?_)
                  clear hK K HS0_ HS1_ HS2_ HS3_
                  refine norm_ (a' := ?_) ?_ ?_
                  rotate_left
                  · show Act.put _ (some 72) _ = _
                    simp only [Act.put, List.setIfInBounds_toArray, List.set_cons_zero, List.set_cons_succ, i64_w, i32_w]
                    rfl
                  refine last_ (i := 13) (N := some 73) #[true, true, true, true, true, true, true, true, true, true, true, true, true, true, false, false] rfl rfl (one_of HT_.out (by kernel_rfl)) (by decide) (fun K hK => ?_)
                  refine value_ (w1 := ?_) (v := ?_) (by rfl) rfl ?_ ?_
                  rotate_left 2
                  · go_simp
                    constructor
                    · rfl
                    · rfl
                  refine hK.out _ _ ?_
                  clear hK K
                  refine norm_ (a' := ?_) ?_ ?_
                  rotate_left
                  · show Act.put _ (some 73) _ = _
                    simp only [Act.put, List.setIfInBounds_toArray, List.set_cons_zero, List.set_cons_succ, i64_w, i32_w]
                    rfl
                  refine last_ (i := 14) (N := some 74) #[true, true, true, true, true, true, true, true, true, true, true, true, true, true, true, false] rfl rfl (one_of HT_.out (by kernel_rfl)) (by decide) (fun K hK => ?_)
                  refine Kd.N_append_step k39 (w0 := w) w.heap.size (by rfl) (.tmp 62) (.tmp 73) 37 39 (.agg #[(.int .i64 0), (.slice none 0 0)]) 32 rfl Try.underlying37 info39 rfl (by decide) (by omega) (.slice (some ad) x.toNat c4) (d.take x.toNat) (⟨0, [rd_T39 d x, rd_T39 d x1]⟩ : S39) [.int .i64 0, .slice A10 2 c10] (fun k_ => w.heap.size + 2 ≤ k_ ∧ some k_ ≠ (Value.slice (some ad5) (m + 1) c5).ownBlock) (fun k_ => (w.heap.size + 2 ≤ k_ ∧ some k_ ≠ (Value.slice (some ad5) (m + 1) c5).ownBlock) ∧ some k_ ≠ (Value.slice (some ad) d.length c4).ownBlock) rfl rfl ?aP (fun _ hk => hk) ?aF HS3.out.hd HS3.out.be ?aS ?aL ?_
                  case aP => exact k39_mkF _ _ (⟨0, [rd_T39 d x, rd_T39 d x1]⟩ : S39) (Kd.N_reads' HO3.out).2.1 (Kd.N_F HO3.out)
                  case aF => exact fun k_ hk => ⟨Nat.le_trans HS3.out.lt hk, Kd.fresh' (Kd.R_lt HS3.out.hf) k_ hk⟩
                  case aS => exact Nat.le_trans (by omega) HS3.out.lt
                  case aL => have := HI1.out; have := HX.out; rw [List.length_take]; omega
                  intro v1 w1 ho hb hg hat
                  have HS4 := Aside0.mk (HS3.out.done ho hb hg hat)
                  clear ho hb hg hat HS3 HO3
                  refine hK.out _ _ ?_
                  clear hK K
                  refine norm_ (a' := ?_) ?_ ?_
                  rotate_left
                  · show Act.put _ (some 74) _ = _
                    simp only [Act.put, List.setIfInBounds_toArray, List.set_cons_zero, List.set_cons_succ, i64_w, i32_w]
                    rfl
                  refine pure_ (i := 15) (N := some 4) (v := ?_) (a' := ?_) #[true, true, true, true, true, true, true, true, true, true, true, true, true, true, true, true] rfl rfl (any_of HT_.out (by kernel_rfl)) (fun _ _ _ h => h) (Or.inl ⟨by rfl, ?_⟩) ?_ ?_
                  rotate_left
                  · intro w'
                    go_simp
                    with_reducible rfl
                  rotate_left
                  · simp only [Act.put, List.setIfInBounds_toArray, List.set_cons_zero, List.set_cons_succ, i64_w, i32_w]
                    rfl
                  refine done_ (done_of HT_.out (by kernel_rfl)) ?_
                  go_wp2_with fail
                  go_roundg gk
                  case measure => omega
                  case rel =>
                    refine ⟨pw, d.take x.toNat ++ [⟨0, [rd_T39 d x, rd_T39 d x1]⟩], f.take m, HG, ⟨?_⟩, ⟨HS4.out.cutF hml⟩⟩
                    have hi := HI1.out
                    have hX := HX.out
                    simp only [List.length_append, List.length_singleton, List.length_take]
                    exact ⟨by omega, by omega, by omega, fun y hy => hi.2.2.2.1 y (List.mem_of_mem_take hy)⟩
                · have hqb : ((d.length : Int) == x + 2) = false := by simp [hq]
                  have hst : readStep c d f = none := by unfold readStep; rw [if_neg h40, if_neg h48, if_neg (fun e => hq (by have h3 := e.2.2; rw [hm, Nat.add_sub_cancel] at h3; rw [← hx]; exact h3))]
                  rw [hst] at hg
                  have h := H.out
                  rw [← hg] at h
                  simp only [Option.bind_none, Option.some.injEq, Prod.mk.injEq] at h
                  obtain ⟨rfl, rfl, rfl⟩ := h
                  clear H hg hst
                  have GE := Nat.le_refl w.heap.size
                  have BK := Aside0.mk HS1.out.res
                  have hz0 : _ = some (Value.int .i64 0) := (blk_cell BK.out 0).trans rfl
                  have hz1 : _ = some (Value.slice none 0 0) := (blk_cell BK.out 1).trans rfl
                  have hf0 := blk_frozen BK.out 0
                  have hf1 := blk_frozen BK.out 1
                  go_wp2_with fail
                  refine bodyPost_ret (results_ct rfl _ _ w.heap.size 39 #[.int .i64 0, .slice none 0 0] (0, 0) _ rfl (by refine blk_put (cs := #[.int .i64 0, .slice none 0 0]) ?_ 1 _ rfl; refine blk_put (cs := #[.int .i64 0, .slice none 0 0]) ?_ 0 _ rfl; exact BK.out) Try.underlying39 rfl (by kernel_rfl)) rfl ?_
                  exact ⟨_, rfl, Kd.V_nil _ _ _ _ _, below_set (below_set HS1.out.be GE) GE⟩
            · have hb41 : (c == 41) = false := by simp [h41]
              have hst : readStep c d f = none := by unfold readStep; rw [if_neg h40, if_neg h48, if_neg (fun e => h41 e.1)]
              rw [hst] at hg
              have h := H.out
              rw [← hg] at h
              simp only [Option.bind_none, Option.some.injEq, Prod.mk.injEq] at h
              obtain ⟨rfl, rfl, rfl⟩ := h
              clear H hg hst
              have GE := Nat.le_refl w.heap.size
              have BK := Aside0.mk HS1.out.res
              have hz0 : _ = some (Value.int .i64 0) := (blk_cell BK.out 0).trans rfl
              have hz1 : _ = some (Value.slice none 0 0) := (blk_cell BK.out 1).trans rfl
              have hf0 := blk_frozen BK.out 0
              have hf1 := blk_frozen BK.out 1
              go_wp2_with fail
              refine bodyPost_ret (results_ct rfl _ _ w.heap.size 39 #[.int .i64 0, .slice none 0 0] (0, 0) _ rfl (by refine blk_put (cs := #[.int .i64 0, .slice none 0 0]) ?_ 1 _ rfl; refine blk_put (cs := #[.int .i64 0, .slice none 0 0]) ?_ 0 _ rfl; exact BK.out) Try.underlying39 rfl (by kernel_rfl)) rfl ?_
              exact ⟨_, rfl, Kd.V_nil _ _ _ _ _, below_set (below_set HS1.out.be GE) GE⟩
    · have hnx : ∀ ty, (Instr.next (.pointer (some ⟨w.heap.size + 1, 0, none⟩)) true ty).run Try.prog wr = _ := fun ty => Lib.run_next_end_at wr (w.heap.size + 1) a0 pos ty HS.out.it hp
      have hg : readGo a0 a0.size 0 [] [] = some (d, f) := by
        rw [← HG.out]
        cases gk with
        | zero => rfl
        | succ n => simp only [readGo]; rw [if_neg hp]
      have h := H.out
      rw [hg] at h
      simp only at h
      have H := Aside0.mk h
      clear h hg HG
      have GE := Nat.le_refl w.heap.size
      have BK := Aside0.mk HS.out.res
      have hz0 : _ = some (Value.int .i64 0) := (blk_cell BK.out 0).trans rfl
      have hz1 : _ = some (Value.slice none 0 0) := (blk_cell BK.out 1).trans rfl
      have hf0 := blk_frozen BK.out 0
      have hf1 := blk_frozen BK.out 1
      by_cases hd1 : d.length = 1
      · have hb1 : ((d.length : Int) != 1) = false := by rw [hd1]; rfl
        have h0z : (0 : Int) < (d.length : Int) := by omega
        by_cases hf0n : f.length = 0
        · have hfb : decide ((0 : Int) < (f.length : Int)) = false := decide_eq_false (by omega)
          have hfc : ¬ (0 : Int) < (f.length : Int) := by omega
          have h := H.out
          rw [if_pos ⟨hd1, hf0n⟩] at h
          obtain ⟨m, hm, h⟩ := Option.bind_eq_some_iff.1 h
          have HM := Aside0.mk hm
          have H := Aside0.mk h
          clear h hm
          obtain ⟨ad, A7, c7, e7, hx0, hx1, hl7, hC7⟩ := at_T39 (Kd.N_reads' HS.out.hd).2.2 0 (by omega) h0z
          cases e7
          obtain ⟨ce, hce, hF, hcc⟩ := Kd.N_get HS.out.hd z39 0 (by omega) h0z
          obtain ⟨A8, c8, rfl, hl8, hF8⟩ := k39_openF hF
          have e8 := Option.some.inj ((hcc 1 _ rfl).symm.trans (by simpa [Addr.add, k39] using hx1))
          injection e8 with e8a _ e8c
          subst e8a; subst e8c
          have HF := Aside0.mk hF8
          have HL := Aside0.mk hl7
          have HC := Aside0.mk hC7
          clear hF hcc hce hF8 hl7 hl8 hC7
          simp only [Int.toNat_zero, Nat.zero_mul, Addr.add_zero'] at hx0 hx1
          cases m with
          | true =>
            have h := H.out
            rw [if_pos rfl] at h
            simp only [Option.some.injEq, Prod.mk.injEq] at h
            obtain ⟨rfl, rfl, rfl⟩ := h
            clear H
            go_wp2_with fail
            refine (tree_May.calls k (rd_T39 d 0).f0 _ _ (rd_T39 d 0).f1 _ _ HC.out HL.out HM.out).mono ?_
            rintro e w2 ⟨rfl, hb⟩
            have BK2 := Aside0.mk (blk_below BK.out hb)
            have HB2 := Aside0.mk (HS.out.be.trans (hb.mono HS.out.be.size))
            replace hx0 := (hb.cell (World.block_lt_of_cell? wr _ hx0)).trans hx0
            replace hx1 := (hb.cell (World.block_lt_of_cell? wr _ hx1)).trans hx1
            have HF2 := Aside0.mk (Kd.F_below HF.out hb)
            clear hb hz0 hz1 hf0 hf1
            have hz0 : _ = some (Value.int .i64 0) := (blk_cell BK2.out 0).trans rfl
            have hz1 : _ = some (Value.slice none 0 0) := (blk_cell BK2.out 1).trans rfl
            have hf0 := blk_frozen BK2.out 0
            have hf1 := blk_frozen BK2.out 1
            go_wp2_with fail
            refine bodyPost_ret (results_ct rfl _ _ w.heap.size 39 #[.int .i64 (rd_T39 d 0).f0, .slice A8 (rd_T39 d 0).f1.length c8] (0, 0) _ rfl (by refine blk_put (cs := #[.int .i64 (rd_T39 d 0).f0, .slice none 0 0]) ?_ 1 _ rfl; refine blk_put (cs := #[.int .i64 0, .slice none 0 0]) ?_ 0 _ rfl; exact BK2.out) Try.underlying39 rfl (by kernel_rfl)) rfl ?_
            exact ⟨_, rfl, Kd.V_mk HL.out (Kd.F_mono (Kd.F_far (Kd.F_far HF2.out (fun k hk => by have := hk.1.1; show k ≠ w.heap.size; omega) _) (fun k hk => by have := hk.1.1; show k ≠ w.heap.size; omega) _) (fun k hk => by have := hk.1.1; omega)), below_set (below_set HB2.out GE) GE⟩
          | false =>
            have h := H.out
            rw [if_neg (by decide)] at h
            simp only [Option.some.injEq, Prod.mk.injEq] at h
            obtain ⟨rfl, rfl, rfl⟩ := h
            clear H
            go_wp2_with fail
            refine (tree_May.calls k (rd_T39 d 0).f0 _ _ (rd_T39 d 0).f1 _ _ HC.out HL.out HM.out).mono ?_
            rintro e w2 ⟨rfl, hb⟩
            have BK2 := Aside0.mk (blk_below BK.out hb)
            have HB2 := Aside0.mk (HS.out.be.trans (hb.mono HS.out.be.size))
            replace hx0 := (hb.cell (World.block_lt_of_cell? wr _ hx0)).trans hx0
            replace hx1 := (hb.cell (World.block_lt_of_cell? wr _ hx1)).trans hx1
            have HF2 := Aside0.mk (Kd.F_below HF.out hb)
            clear hb hz0 hz1 hf0 hf1
            have hz0 : _ = some (Value.int .i64 0) := (blk_cell BK2.out 0).trans rfl
            have hz1 : _ = some (Value.slice none 0 0) := (blk_cell BK2.out 1).trans rfl
            have hf0 := blk_frozen BK2.out 0
            have hf1 := blk_frozen BK2.out 1
            go_wp2_with fail
            refine bodyPost_ret (results_ct rfl _ _ w.heap.size 39 #[.int .i64 0, .slice none 0 0] (0, 0) _ rfl (by refine blk_put (cs := #[.int .i64 0, .slice none 0 0]) ?_ 1 _ rfl; refine blk_put (cs := #[.int .i64 0, .slice none 0 0]) ?_ 0 _ rfl; exact BK2.out) Try.underlying39 rfl (by kernel_rfl)) rfl ?_
            exact ⟨_, rfl, Kd.V_nil _ _ _ _ _, below_set (below_set HB2.out GE) GE⟩
        · have hfb : decide ((0 : Int) < (f.length : Int)) = true := decide_eq_true (by omega)
          have hfc : (0 : Int) < (f.length : Int) := by omega
          have h := H.out
          rw [if_neg (fun e => hf0n e.2)] at h
          simp only [Option.some.injEq, Prod.mk.injEq] at h
          obtain ⟨rfl, rfl, rfl⟩ := h
          clear H
          go_wp2_with fail
          refine bodyPost_ret (results_ct rfl _ _ w.heap.size 39 #[.int .i64 0, .slice none 0 0] (0, 0) _ rfl (by refine blk_put (cs := #[.int .i64 0, .slice none 0 0]) ?_ 1 _ rfl; refine blk_put (cs := #[.int .i64 0, .slice none 0 0]) ?_ 0 _ rfl; exact BK.out) Try.underlying39 rfl (by kernel_rfl)) rfl ?_
          exact ⟨_, rfl, Kd.V_nil _ _ _ _ _, below_set (below_set HS.out.be GE) GE⟩
      · have hb1 : ((d.length : Int) != 1) = true := by simp; omega
        have h := H.out
        rw [if_neg (fun e => hd1 e.1)] at h
        simp only [Option.some.injEq, Prod.mk.injEq] at h
        obtain ⟨rfl, rfl, rfl⟩ := h
        clear H
        go_wp2_with fail
        refine bodyPost_ret (results_ct rfl _ _ w.heap.size 39 #[.int .i64 0, .slice none 0 0] (0, 0) _ rfl (by refine blk_put (cs := #[.int .i64 0, .slice none 0 0]) ?_ 1 _ rfl; refine blk_put (cs := #[.int .i64 0, .slice none 0 0]) ?_ 0 _ rfl; exact BK.out) Try.underlying39 rfl (by kernel_rfl)) rfl ?_
        exact ⟨_, rfl, Kd.V_nil _ _ _ _ _, below_set (below_set HS.out.be GE) GE⟩


end Go.Proofs.Ytdegbnjnbpjdfaa.T
