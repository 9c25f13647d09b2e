/- Part 14 of the proof: an abstract machine that runs the program's code over plain values, its soundness, and what the functions tell of plain values. Conditions: those in each theorem. -/
import Derived.Test.YtgebkpchpliahaaGreatDoorA12
import Derived.WalkKit
import Derived.Tactics
import Derived.Tactics2
import Derived.Defers
import Derived.Recover
import Derived.Test.YtgebkpchpliahaaGreatDoorProg
import Derived.Deep.RegionWith
import Derived.LoopN
set_option linter.unusedSectionVars false
namespace Go.Proofs
open Go.RowKit
set_option linter.unusedVariables false
set_option maxHeartbeats 1000000
set_option maxRecDepth 100000
theorem Tryz.cellSet (w : World) (b o : Nat) (cs : Array Value) (t : TypeId) (v : Value) (h : w.heap[b]? = some (.cells cs t)) : w.setCell ⟨b, o, none⟩ v = { w with heap := w.heap.setIfInBounds b (.cells (cs.setIfInBounds o v) t) } := by
  unfold World.setCell
  congr 1
  apply Array.ext_getElem?
  intro k
  rw [Array.getElem?_modify]
  by_cases e : b = k
  · subst e
    have hlt := (Array.getElem?_eq_some_iff.1 h).1
    rw [if_pos rfl, h, Array.getElem?_setIfInBounds_self_of_lt hlt]; rfl
  · rw [if_neg e, Array.getElem?_setIfInBounds_ne e]
theorem Tryz.told_idle (p q : Addr) (w : World) :
    CallsD Tryz.prog 127 #[.pointer (some p), .pointer (some q)] .returning w fun e u' w' => e = .returned (.tuple #[]) ∧ u' = .returning ∧ w' = w := by
  refine callsD_of_wpS Tryz.func127 rfl fun c₀ cs hu => ?_
  apply wpS_seq
  apply wpS_region
  simp [wpOpsS, go_sem, recoverD, hu, Tryz.ntmps127, Exit.thenS]
  refine wpS_of_wp ?_
  go_wp2
  cases c₀; simp_all [bodyPostS, results, Tryz.results127]
theorem Tryz.told_run (g : FuncId) (fs cs : Array Value) (w : World) (Q : Value → Value → World → Prop)
    (eg : ∀ w' args, (callFunc g args).run Tryz.prog w' = .ok (.enter g args) w')
    (hc : Calls Tryz.prog g (fs ++ cs) ((w.alloc (.cells #[.slice none 0 0, .slice none 0 0] 40)).alloc (.cells #[.bool false] 4)) (fun e w3 => ∃ x y, e = .returned (.agg #[x, y]) ∧ x.oneCell' = true ∧ y.oneCell' = true ∧
      w3.heap[w.heap.size]? = some (.cells #[.slice none 0 0, .slice none 0 0] 40) ∧ w3.heap[w.heap.size + 1]? = some (.cells #[.bool false] 4) ∧ Q x y w3)) :
    Calls Tryz.prog 61 #[.func (.func g) fs cs] w fun e w' => ∃ x y w3, e = .returned (.tuple #[.agg #[x, y], .bool true]) ∧ Q x y w3 ∧ w3.heap[w.heap.size]? = some (.cells #[.slice none 0 0, .slice none 0 0] 40) ∧ w3.heap[w.heap.size + 1]? = some (.cells #[.bool false] 4) ∧
      w' = { w3 with heap := (w3.heap.setIfInBounds w.heap.size (.cells #[x, y] 40)).setIfInBounds (w.heap.size + 1) (.cells #[.bool true] 4) } := by
  have hmf : ∀ (fn : Fn) (first cap : Array Value) (w : World), (Instr.makeFunc fn first cap).run Tryz.prog w = .ok (.func fn first cap) w := fun _ _ _ _ => rfl
  go_enter_defers Tryz.func61, Tryz.ntmps61
  go_wp2
  refine hc.mono ?_
  rintro e w3 ⟨x, y, rfl, ox, oy, h1, h2, hq⟩
  have c0 : w3.cell? ⟨w.heap.size, 0, none⟩ = some (.slice none 0 0) := by unfold World.cell?; simp only [h1]; rfl
  have c1 : w3.cell? ⟨w.heap.size, 1, none⟩ = some (.slice none 0 0) := by unfold World.cell?; simp only [h1]; rfl
  have c2 : w3.cell? ⟨w.heap.size + 1, 0, none⟩ = some (.bool false) := by unfold World.cell?; simp only [h2]; rfl
  have f0 : w3.frozen? ⟨w.heap.size, 0, none⟩ = false := by unfold World.frozen?; simp only [h1]; rfl
  have f1 : w3.frozen? ⟨w.heap.size, 1, none⟩ = false := by unfold World.frozen?; simp only [h1]; rfl
  have f2 : w3.frozen? ⟨w.heap.size + 1, 0, none⟩ = false := by unfold World.frozen?; simp only [h2]; rfl
  clear hc
  have sx : ∀ (w : World) (a : Addr) (m : Mode), (store a x m).run Tryz.prog w = stored Tryz.prog w a x m := fun w a m => run_store _ w a x m ox
  have sy : ∀ (w : World) (a : Addr) (m : Mode), (store a y m).run Tryz.prog w = stored Tryz.prog w a y m := fun w a m => run_store _ w a y m oy
  have hlt : w.heap.size < w3.heap.size := (Array.getElem?_eq_some_iff.1 h1).1
  have hlt2 : w.heap.size + 1 < w3.heap.size := (Array.getElem?_eq_some_iff.1 h2).1
  have hW : ((w3.setCell ⟨w.heap.size, 0, none⟩ x).setCell ⟨w.heap.size, 1, none⟩ y).setCell ⟨w.heap.size + 1, 0, none⟩ (.bool true) = { w3 with heap := (w3.heap.setIfInBounds w.heap.size (.cells #[x, y] 40)).setIfInBounds (w.heap.size + 1) (.cells #[.bool true] 4) } := by
    rw [Tryz.cellSet _ _ _ _ _ _ h1]
    rw [Tryz.cellSet _ w.heap.size 1 #[x, .slice none 0 0] 40 y (by simp [hlt])]
    rw [Tryz.cellSet _ (w.heap.size + 1) 0 #[.bool false] 4 (.bool true) (by
      show ((w3.heap.setIfInBounds w.heap.size _).setIfInBounds w.heap.size _)[w.heap.size + 1]? = _
      rw [Array.getElem?_setIfInBounds_ne (by omega), Array.getElem?_setIfInBounds_ne (by omega)]; exact h2)]
    congr 1
    simp
  go_wp2
  refine leaves_cons (f := 127) (args := #[.pointer (some ⟨w.heap.size, 0, none⟩), .pointer (some ⟨w.heap.size + 1, 0, none⟩)]) (by simp) (by simp [go_sem]) ?_
  refine (Tryz.told_idle _ _ _).mono ?_
  rintro e u' w'' ⟨rfl, rfl, rfl⟩
  have e0 : World.cell? { w3 with heap := (w3.heap.setIfInBounds w.heap.size (.cells #[x, y] 40)).setIfInBounds (w.heap.size + 1) (.cells #[.bool true] 4) } ⟨w.heap.size, 0, none⟩ = some x := by
    unfold World.cell?
    simp [hlt]
  have e1 : World.cell? { w3 with heap := (w3.heap.setIfInBounds w.heap.size (.cells #[x, y] 40)).setIfInBounds (w.heap.size + 1) (.cells #[.bool true] 4) } ⟨w.heap.size, 1, none⟩ = some y := by
    unfold World.cell?
    simp [hlt]
  have e2 : World.cell? { w3 with heap := (w3.heap.setIfInBounds w.heap.size (.cells #[x, y] 40)).setIfInBounds (w.heap.size + 1) (.cells #[.bool true] 4) } ⟨w.heap.size + 1, 0, none⟩ = some (.bool true) := by
    unfold World.cell?
    simp [hlt2]
  generalize hG : ({ w3 with heap := (w3.heap.setIfInBounds w.heap.size (.cells #[x, y] 40)).setIfInBounds (w.heap.size + 1) (.cells #[.bool true] 4) } : World) = W5 at e0 e1 e2 ⊢
  simp [Leaves, settle, results, Tryz.results61, go_sem, e0, e1, e2]
  exact ⟨x, y, ⟨rfl, rfl⟩, w3, hq, h1, h2, hG.symm⟩
theorem Tryz.toldC : Go.Ab.ToldC Tryz.prog [62, 81] 61 40 4 (.slice none 0 0) (.slice none 0 0) :=
  ⟨⟨Tryz.f61, Tryz.func61, by kernel_rfl, by kernel_rfl⟩, fun g hg => by
    simp only [List.mem_cons, List.not_mem_nil, or_false] at hg
    rcases hg with rfl | rfl
    · exact ⟨Tryz.f62, Tryz.func62, by kernel_rfl, by kernel_rfl⟩
    · exact ⟨Tryz.f81, Tryz.func81, by kernel_rfl, by kernel_rfl⟩, fun g fs cs w Q eg hc => Tryz.told_run g fs cs w Q eg hc⟩
end Go.Proofs

namespace Go.Proofs
open Go.Shelf Go.RowKit Go.Lib Go.Sort
def Tryz.sortK_ren : Go.Shelf.Ren := ⟨fun | 6 => 155 | 15 => 190 | 14 => 199 | 28 => 233 | 29 => 234 | 20 => 238 | 21 => 239 | 22 => 240 | 23 => 241 | 24 => 242 | 25 => 243 | 26 => 244 | 27 => 245 | 46 => 273 | 47 => 267 | 48 => 268 | 49 => 274 | 50 => 275 | 57 => 302 | n => n, fun | 22 => 177 | 24 => 100 | 25 => 99 | 3 => 3 | 39 => 209 | 0 => 0 | 53 => 246 | 55 => 217 | 4 => 4 | 46 => 240 | 45 => 239 | 50 => 124 | 5 => 5 | 9 => 9 | 66 => 259 | 70 => 263 | 76 => 276 | 77 => 277 | n => n, fun | n => n⟩
theorem Tryz.sortK : Go.Proofs.SlLaysF0.n6 Tryz.prog Tryz.sortK_ren := {
  mixed := by kernel_rfl
  f6 := ⟨Tryz.f155.name, by decide, Tryz.func155.trans (congrArg some (by kernel_rfl))⟩
  f14 := ⟨Tryz.f199.name, by decide, Tryz.func199.trans (congrArg some (by kernel_rfl))⟩
  f15 := Tryz.func190.trans (congrArg some (by kernel_rfl))
  f20 := ⟨Tryz.f238.name, by decide, Tryz.func238.trans (congrArg some (by kernel_rfl))⟩
  f21 := ⟨Tryz.f239.name, by decide, Tryz.func239.trans (congrArg some (by kernel_rfl))⟩
  f22 := ⟨Tryz.f240.name, by decide, Tryz.func240.trans (congrArg some (by kernel_rfl))⟩
  f23 := ⟨Tryz.f241.name, by decide, Tryz.func241.trans (congrArg some (by kernel_rfl))⟩
  f24 := ⟨Tryz.f242.name, by decide, Tryz.func242.trans (congrArg some (by kernel_rfl))⟩
  f25 := ⟨Tryz.f243.name, by decide, Tryz.func243.trans (congrArg some (by kernel_rfl))⟩
  f26 := ⟨Tryz.f244.name, by decide, Tryz.func244.trans (congrArg some (by kernel_rfl))⟩
  f27 := ⟨Tryz.f245.name, by decide, Tryz.func245.trans (congrArg some (by kernel_rfl))⟩
  f28 := Tryz.func233.trans (congrArg some (by kernel_rfl))
  f29 := Tryz.func234.trans (congrArg some (by kernel_rfl))
  f46 := ⟨Tryz.f273.name, by decide, Tryz.func273.trans (congrArg some (by kernel_rfl))⟩
  f47 := Tryz.func267.trans (congrArg some (by kernel_rfl))
  f48 := Tryz.func268.trans (congrArg some (by kernel_rfl))
  f49 := ⟨Tryz.f274.name, by decide, Tryz.func274.trans (congrArg some (by kernel_rfl))⟩
  f50 := ⟨Tryz.f275.name, by decide, Tryz.func275.trans (congrArg some (by kernel_rfl))⟩
  f57 := ⟨Tryz.f302.name, by decide, Tryz.func302.trans (congrArg some (by kernel_rfl))⟩
  t0 := Tryz.underlying0
  a0 := Tryz.isAgg0
  z0 := Tryz.sizeOf0
  v0 := Tryz.zeroValue0
  t3 := Tryz.underlying3
  a3 := Tryz.isAgg3
  z3 := Tryz.sizeOf3
  v3 := Tryz.zeroValue3
  t4 := Tryz.underlying4
  a4 := Tryz.isAgg4
  z4 := Tryz.sizeOf4
  v4 := Tryz.zeroValue4
  t5 := Tryz.underlying5
  a5 := Tryz.isAgg5
  z5 := Tryz.sizeOf5
  v5 := Tryz.zeroValue5
  t9 := Tryz.underlying9
  a9 := Tryz.isAgg9
  z9 := Tryz.sizeOf9
  v9 := Tryz.zeroValue9
  t22 := Tryz.underlying177
  a22 := Tryz.isAgg177
  z22 := Tryz.sizeOf177
  v22 := Tryz.zeroValue177
  t25 := Tryz.underlying99
  a25 := Tryz.isAgg99
  z25 := Tryz.sizeOf99
  v25 := Tryz.zeroValue99
  t39 := Tryz.underlying209
  a39 := Tryz.isAgg209
  z39 := Tryz.sizeOf209
  v39 := Tryz.zeroValue209
  t45 := Tryz.underlying239
  a45 := Tryz.isAgg239
  z45 := Tryz.sizeOf239
  v45 := Tryz.zeroValue239
  t46 := Tryz.underlying240
  a46 := Tryz.isAgg240
  z46 := Tryz.sizeOf240
  v46 := Tryz.zeroValue240
  t50 := Tryz.underlying124
  a50 := Tryz.isAgg124
  z50 := Tryz.sizeOf124
  v50 := Tryz.zeroValue124
  t53 := Tryz.underlying246
  a53 := Tryz.isAgg246
  z53 := Tryz.sizeOf246
  v53 := Tryz.zeroValue246
  t55 := Tryz.underlying217
  a55 := Tryz.isAgg217
  z55 := Tryz.sizeOf217
  v55 := Tryz.zeroValue217
  t66 := Tryz.underlying259
  a66 := Tryz.isAgg259
  z66 := Tryz.sizeOf259
  v66 := Tryz.zeroValue259
  t70 := Tryz.underlying263
  a70 := Tryz.isAgg263
  z70 := Tryz.sizeOf263
  v70 := Tryz.zeroValue263
  t76 := Tryz.underlying276
  a76 := Tryz.isAgg276
  z76 := Tryz.sizeOf276
  v76 := Tryz.zeroValue276
  t77 := Tryz.underlying277
  a77 := Tryz.isAgg277
  z77 := Tryz.sizeOf277
  v77 := Tryz.zeroValue277 }
set_option linter.unusedVariables false
set_option maxHeartbeats 1000000
set_option maxRecDepth 100000
theorem Tryz.walk_isNaN (x : Int) (w : World) : Calls Tryz.prog 221 #[.int .i64 x] w fun e w' => e = .returned (.bool false) ∧ w' = w := by
  go_enter Tryz.func221, Tryz.ntmps221
  go_wp2
  go_ret
  exact ⟨by simp, rfl⟩
def Tryz.cz (x y : Int) : Int := if x < y then -1 else if x > y then 1 else 0
theorem Tryz.walk_cmp (x y : Int) (w : World) : Calls Tryz.prog 182 #[.int .i64 x, .int .i64 y] w fun e w' => e = .returned (.int .i64 (Tryz.cz x y)) ∧ w' = w := by
  unfold Tryz.cz
  go_enter Tryz.func182, Tryz.ntmps182
  go_wp2_with (go_at_call 221; refine (Tryz.walk_isNaN _ _).mono ?_; rintro e w' ⟨rfl, hw⟩; rw [hw])
  all_goals (go_ret; refine ⟨?_, rfl⟩; (repeat' split) <;> first | rfl | (exfalso; omega))
theorem Tryz.walk_Compare (b1 b2 : Nat) (x1 x2 y1 y2 : Int) (w : World) (h1 : w.cell? ⟨b1, 0, none⟩ = some (.int .i64 x1)) (h2 : w.cell? ⟨b1, 1, none⟩ = some (.int .i64 x2)) (h3 : w.cell? ⟨b2, 0, none⟩ = some (.int .i64 y1)) (h4 : w.cell? ⟨b2, 1, none⟩ = some (.int .i64 y2)) :
    Calls Tryz.prog 124 #[.slice (some ⟨b1, 0, none⟩) 2 2, .slice (some ⟨b2, 0, none⟩) 2 2] w fun e w' => e = .returned (.int .i64 (if Tryz.cz x1 y1 = 0 then Tryz.cz x2 y2 else Tryz.cz x1 y1)) ∧ w' = w := by
  have k1 := fun W => Tryz.walk_cmp x1 y1 W
  have k2 := fun W => Tryz.walk_cmp x2 y2 W
  generalize Tryz.cz x1 y1 = c1 at k1 ⊢
  generalize Tryz.cz x2 y2 = c2 at k2 ⊢
  by_cases hc : c1 = 0
  · subst hc
    rw [if_pos rfl]
    by_cases hd : c2 = 0
    · subst hd
      go_enter Tryz.func124, Tryz.ntmps124
      go_wp2
      refine wp_loop_rounds 3 ?_
      rw [rounds_succ]
      go_wp2_with (go_at_call 182; refine (k1 _).mono ?_; rintro e w' ⟨rfl, hw⟩; rw [hw])
      rw [rounds_succ]
      go_wp2_with (go_at_call 182; refine (k2 _).mono ?_; rintro e w' ⟨rfl, hw⟩; rw [hw])
      rw [rounds_succ]
      go_wp2
      go_ret
      exact ⟨rfl, rfl⟩
    · have hb : (c2 != 0) = true := by simpa using hd
      go_enter Tryz.func124, Tryz.ntmps124
      go_wp2
      refine wp_loop_rounds 3 ?_
      rw [rounds_succ]
      go_wp2_with (go_at_call 182; refine (k1 _).mono ?_; rintro e w' ⟨rfl, hw⟩; rw [hw])
      rw [rounds_succ]
      go_wp2_with (go_at_call 182; refine (k2 _).mono ?_; rintro e w' ⟨rfl, hw⟩; rw [hw])
      go_ret
      exact ⟨rfl, rfl⟩
  · rw [if_neg hc]
    have hb : (c1 != 0) = true := by simpa using hc
    go_enter Tryz.func124, Tryz.ntmps124
    go_wp2
    refine wp_loop_rounds 3 ?_
    rw [rounds_succ]
    go_wp2_with (go_at_call 182; refine (k1 _).mono ?_; rintro e w' ⟨rfl, hw⟩; rw [hw])
    go_ret
    exact ⟨rfl, rfl⟩
def Tryz.kty : List Go.Ab.TyI := (List.range 101).map fun i => bif i == 3 then ⟨.int .i64, 1, 8, [.pv (.int .i64 0)]⟩ else bif i == 100 then ⟨.arr 2 3, 2, 16, [.pv (.int .i64 0), .pv (.int .i64 0)]⟩ else ⟨.other, 0, 0, []⟩
noncomputable def Tryz.kcfg : Go.Ab.Cfg := ⟨Tryz.kty, fun _ => none, fun _ => none⟩
theorem Tryz.ktys : Go.Ab.tysB Tryz.prog Tryz.kcfg = true := by kernel_rfl
theorem Tryz.keyEq0 [GL : Go.Ab.Gl] (x1 x2 y1 y2 : Int) (w : World) : (Op.equalIn 10000 100 (.agg #[.int .i64 x1, .int .i64 x2]) (.agg #[.int .i64 y1, .int .i64 y2])).run Tryz.prog w = .ok (x1 == y1 && x2 == y2) w := by
  have hv : ∀ a b : Int, Go.Ab.VP (fun _ _ => none) (.agg #[.int .i64 a, .int .i64 b]) (.agg [.int .i64 a, .int .i64 b]) := fun a b =>
    .agg _ _ rfl (fun v hv => by simp at hv; rcases hv with rfl | rfl <;> rfl) (fun j v p hv hp => by
      match j with
      | 0 => simp at hv hp; subst hv; subst hp; exact .int _ _
      | 1 => simp at hv hp; subst hv; subst hp; exact .int _ _
      | j + 2 => simp at hp)
  refine Go.Ab.eqP_sound (Go.Ab.tysB_ok Tryz.ktys) 6 10000 100 _ _ _ _ _ (by omega) (hv x1 x2) (hv y1 y2) ?_
  show (bif (x1 == y1) then (bif (x2 == y2) then some true else some false) else some false) = _
  cases x1 == y1 <;> cases x2 == y2 <;> rfl
theorem Tryz.keyEq (x1 x2 y1 y2 : Int) (w : World) : (Op.equalIn 10000 100 (.agg #[.int .i64 x1, .int .i64 x2]) (.agg #[.int .i64 y1, .int .i64 y2])).run Tryz.prog w = .ok (x1 == y1 && x2 == y2) w := Tryz.keyEq0 (GL := Go.Ab.Gl.triv) x1 x2 y1 y2 w
theorem Tryz.walk_compare (x1 x2 y1 y2 : Int) (W : World) :
    Calls Tryz.prog 57 #[.agg #[.int .i64 x1, .int .i64 x2], .agg #[.int .i64 y1, .int .i64 y2]] W fun e w' => e = .returned (.int .i64 (if (x1 == y1 && x2 == y2) = true then 0 else if Tryz.cz x1 y1 = 0 then Tryz.cz x2 y2 else Tryz.cz x1 y1)) ∧ ∃ q os', w' = grow (W.drewN q) os' := by
  have he := fun w => Tryz.keyEq x1 x2 y1 y2 w
  generalize (x1 == y1 && x2 == y2) = b at he ⊢
  have hc := fun b1 b2 w h1 h2 h3 h4 => Tryz.walk_Compare b1 b2 x1 x2 y1 y2 w h1 h2 h3 h4
  generalize (if Tryz.cz x1 y1 = 0 then Tryz.cz x2 y2 else Tryz.cz x1 y1) = c at hc ⊢
  cases b with
  | true =>
    go_enter Tryz.func57, Tryz.ntmps57
    go_wp2
    all_goals (go_ret; exact ⟨by simp, 0, _, by rw [alloc_eq_grow, alloc_eq_grow, grow_grow]; rfl⟩)
  | false =>
    go_enter Tryz.func57, Tryz.ntmps57
    go_wp2
    have s1 : ∀ o1 o2 : Obj, ((W.alloc o1).alloc o2).drew.heap[W.heap.size]? = some o1 := fun o1 o2 => by
      show ((W.heap.push o1).push o2)[W.heap.size]? = _
      simp [Array.getElem?_push]
    have s2 : ∀ o1 o2 : Obj, ((W.alloc o1).alloc o2).drew.heap[W.heap.size + 1]? = some o2 := fun o1 o2 => by
      show ((W.heap.push o1).push o2)[W.heap.size + 1]? = _
      rw [Array.getElem?_push]; simp
    all_goals (go_region_with (go_at_call 124; refine (hc W.heap.size (W.heap.size + 1) _ (by unfold World.cell?; simp only [s1]; rfl) (by unfold World.cell?; simp only [s1]; rfl) (by unfold World.cell?; simp only [s2]; rfl) (by unfold World.cell?; simp only [s2]; rfl)).mono ?_; rintro e w' ⟨rfl, hw⟩; rw [hw]))
    all_goals (go_wp2; go_ret; exact ⟨by simp, 1, _, by show ((W.drew).alloc _).alloc _ = _; rw [alloc_eq_grow, alloc_eq_grow, grow_grow]; rfl⟩)
theorem Tryz.keyCmp (x y : Int × Int) : (if (x.1 == y.1 && x.2 == y.2) = true then 0 else if Tryz.cz x.1 y.1 = 0 then Tryz.cz x.2 y.2 else Tryz.cz x.1 y.1) = Go.Ab.cmpK x y := by
  unfold Tryz.cz Go.Ab.cmpK
  by_cases h1 : x.1 = y.1
  · by_cases h2 : x.2 = y.2
    · simp [h1, h2]
    · simp [h1, h2]
  · rcases Int.lt_or_gt_of_ne h1 with h | h
    · simp [h1, h]
    · simp [h1, h, show ¬ x.1 < y.1 by omega]
theorem Tryz.keyLt (x y : Int × Int) : ltOf Go.Ab.cmpK x y = true ↔ x.1 < y.1 ∨ (x.1 = y.1 ∧ x.2 < y.2) := by
  unfold ltOf Go.Ab.cmpK
  rw [decide_eq_true_eq]
  split
  · constructor <;> intro <;> omega
  · split
    · constructor <;> intro <;> omega
    · split
      · constructor <;> intro <;> omega
      · split <;> constructor <;> intro <;> omega
theorem Tryz.keySwo : SWO (ltOf Go.Ab.cmpK) where
  irrefl x := by rw [Bool.eq_false_iff]; intro h; rw [Tryz.keyLt] at h; omega
  trans x y z h1 h2 := by rw [Tryz.keyLt] at *; omega
  ntrans x y z h1 h2 := by rw [Bool.eq_false_iff] at *; intro h; simp only [ne_eq, Tryz.keyLt] at *; omega
theorem Tryz.keyTot (x y : Int × Int) (h1 : ltOf Go.Ab.cmpK x y = false) (h2 : ltOf Go.Ab.cmpK y x = false) : x = y := by
  rw [Bool.eq_false_iff] at h1 h2
  simp only [ne_eq, Tryz.keyLt] at h1 h2
  obtain ⟨a, b⟩ := x
  obtain ⟨c, d⟩ := y
  simp only [Prod.mk.injEq] at *
  omega
theorem Tryz.keySort : Go.Ab.SortKC Tryz.prog 155 57 :=
  ⟨⟨Tryz.f155, Tryz.func155, by kernel_rfl, by kernel_rfl⟩, fun blk off cap d w h1 h2 h3 => by
    have eg : ∀ args w, (callFunc 57 args).run Tryz.prog w = .ok (.enter 57 args) w := enters_of Tryz.func57 (by kernel_rfl) rfl
    have hc : CmpLays Tryz.prog 57 #[] Go.Ab.encK 2 Go.Ab.cmpK blk off d.size w := fun m os dk _ x y => by
      rw [← Tryz.keyCmp x y]; exact Tryz.walk_compare x.1 x.2 y.1 y.2 _
    rw [Go.Ab.sortKeys_eq]
    exact AnyQ.slices_SortFunc_total Tryz.sortK 2 Tryz.isAgg100 Tryz.sizeOf100 Go.Ab.encK (fun _ => rfl) (fun x v hv => by simp [Go.Ab.encK] at hv; rcases hv with rfl | rfl <;> rfl) Go.Ab.cmpK Tryz.keySwo 57 #[] blk off cap d w eg hc h1 h2 h3 Tryz.keyTot,
    fun p cap fv w => AnyF.slices_SortFunc_none Tryz.sortK p cap fv w⟩
end Go.Proofs

namespace Go.Cf
open Go Go.Ab Go.Proofs
set_option maxRecDepth 100000
def ty : List TyI := [⟨.other, 1, 0, []⟩,
  ⟨.scalar, 1, 8, [.pv .nilfn]⟩,
  ⟨(.int .i64), 1, 8, [.pv (.int .i64 0)]⟩,
  ⟨(.int .i64), 1, 8, [.pv (.int .i64 0)]⟩,
  ⟨.bool, 1, 1, [.pv (.bool false)]⟩,
  ⟨(.int .u8), 1, 1, [.pv (.int .u8 0)]⟩,
  ⟨(.int .u8), 1, 1, [.pv (.int .u8 0)]⟩,
  ⟨(.struct [(2, 0), (3, 1), (4, 2), (6, 3)]), 4, 24, [.pv (.int .i64 0), .pv (.int .i64 0), .pv (.bool false), .pv (.int .u8 0)]⟩,
  ⟨(.struct [(2, 0), (3, 1), (4, 2), (6, 3)]), 4, 24, [.pv (.int .i64 0), .pv (.int .i64 0), .pv (.bool false), .pv (.int .u8 0)]⟩,
  ⟨.str, 1, 16, [.pv (.str ⟨#[]⟩)]⟩,
  ⟨.str, 1, 16, [.pv (.str ⟨#[]⟩)]⟩,
  ⟨.str, 1, 16, [.pv (.str ⟨#[]⟩)]⟩,
  ⟨(.int .u64), 1, 8, [.pv (.int .u64 0)]⟩,
  ⟨.other, 2, 24, []⟩,
  ⟨.other, 2, 24, []⟩,
  ⟨.scalar, 1, 8, [.pv (.con (.pointer none))]⟩,
  ⟨.scalar, 1, 8, [.pv (.con (.pointer none))]⟩,
  ⟨.scalar, 1, 8, [.pv (.con (.pointer none))]⟩,
  ⟨.other, 1, 8, []⟩,
  ⟨.other, 1, 8, []⟩,
  ⟨.scalar, 1, 16, [.pv (.con .nilIface)]⟩,
  ⟨(.int .i32), 1, 4, [.pv (.int .i32 0)]⟩,
  ⟨(.slice 141), 1, 24, [.nil 3]⟩,
  ⟨(.struct [(22, 0)]), 1, 24, [.nil 3]⟩,
  ⟨(.struct [(22, 0)]), 1, 24, [.nil 3]⟩,
  ⟨(.slice 38), 1, 24, [.nil 0]⟩,
  ⟨(.struct [(25, 0)]), 1, 24, [.nil 0]⟩,
  ⟨(.struct [(25, 0)]), 1, 24, [.nil 0]⟩,
  ⟨(.slice 3), 1, 24, [.nil 0]⟩,
  ⟨(.slice 48), 1, 24, [.nil 6]⟩,
  ⟨(.struct [(28, 0), (29, 1), (3, 2), (28, 3), (28, 4), (3, 5)]), 6, 112, [.nil 0, .nil 6, .pv (.int .i64 0), .nil 0, .nil 0, .pv (.int .i64 0)]⟩,
  ⟨(.struct [(28, 0), (29, 1), (3, 2), (28, 3), (28, 4), (3, 5)]), 6, 112, [.nil 0, .nil 6, .pv (.int .i64 0), .nil 0, .nil 0, .pv (.int .i64 0)]⟩,
  ⟨(.arr 2 3), 2, 16, [.pv (.int .i64 0), .pv (.int .i64 0)]⟩,
  ⟨(.slice 35), 1, 24, [.nil 6]⟩,
  ⟨(.struct [(3, 0), (3, 1), (32, 2), (33, 4)]), 5, 56, [.pv (.int .i64 0), .pv (.int .i64 0), .pv (.int .i64 0), .pv (.int .i64 0), .nil 6]⟩,
  ⟨(.struct [(3, 0), (3, 1), (32, 2), (33, 4)]), 5, 56, [.pv (.int .i64 0), .pv (.int .i64 0), .pv (.int .i64 0), .pv (.int .i64 0), .nil 6]⟩,
  ⟨.scalar, 1, 8, [.pv .nilfn]⟩,
  ⟨.scalar, 1, 8, [.pv .nilfn]⟩,
  ⟨(.slice 54), 1, 24, [.nil 0]⟩,
  ⟨(.struct [(28, 0), (38, 1)]), 2, 48, [.nil 0, .nil 0]⟩,
  ⟨(.struct [(28, 0), (38, 1)]), 2, 48, [.nil 0, .nil 0]⟩,
  ⟨.other, 1, 0, []⟩,
  ⟨.scalar, 1, 8, [.pv .nilfn]⟩,
  ⟨.scalar, 1, 8, [.pv .nilfn]⟩,
  ⟨.scalar, 1, 8, [.pv .nilfn]⟩,
  ⟨(.struct [(3, 0), (3, 1)]), 2, 16, [.pv (.int .i64 0), .pv (.int .i64 0)]⟩,
  ⟨(.struct [(3, 0), (3, 1)]), 2, 16, [.pv (.int .i64 0), .pv (.int .i64 0)]⟩,
  ⟨(.struct [(3, 0), (3, 1), (46, 2), (29, 4)]), 5, 56, [.pv (.int .i64 0), .pv (.int .i64 0), .pv (.int .i64 0), .pv (.int .i64 0), .nil 6]⟩,
  ⟨(.struct [(3, 0), (3, 1), (46, 2), (29, 4)]), 5, 56, [.pv (.int .i64 0), .pv (.int .i64 0), .pv (.int .i64 0), .pv (.int .i64 0), .nil 6]⟩,
  ⟨.scalar, 1, 8, [.pv .nilfn]⟩,
  ⟨.scalar, 1, 8, [.pv .nilfn]⟩,
  ⟨.scalar, 1, 8, [.pv .nilfn]⟩,
  ⟨.scalar, 1, 8, [.pv .nilfn]⟩,
  ⟨.scalar, 1, 8, [.pv .nilfn]⟩,
  ⟨(.slice 46), 1, 24, [.nil 3]⟩,
  ⟨.scalar, 1, 8, [.pv .nilfn]⟩,
  ⟨(.slice 58), 1, 24, [.nil 3]⟩,
  ⟨(.struct [(3, 0), (56, 1)]), 2, 32, [.pv (.int .i64 0), .nil 3]⟩,
  ⟨(.struct [(3, 0), (56, 1)]), 2, 32, [.pv (.int .i64 0), .nil 3]⟩,
  ⟨.other, 1, 0, []⟩,
  ⟨.scalar, 1, 8, [.pv .nilfn]⟩,
  ⟨.scalar, 1, 8, [.pv .nilfn]⟩,
  ⟨.scalar, 1, 8, [.pv .nilfn]⟩,
  ⟨.scalar, 1, 8, [.pv .nilfn]⟩,
  ⟨.scalar, 1, 8, [.pv .nilfn]⟩,
  ⟨.scalar, 1, 8, [.pv .nilfn]⟩,
  ⟨.scalar, 1, 8, [.pv .nilfn]⟩,
  ⟨.scalar, 1, 8, [.pv .nilfn]⟩,
  ⟨.scalar, 1, 8, [.pv .nilfn]⟩,
  ⟨.scalar, 1, 8, [.pv .nilfn]⟩,
  ⟨.scalar, 1, 8, [.pv .nilfn]⟩,
  ⟨.scalar, 1, 8, [.pv .nilfn]⟩,
  ⟨.scalar, 1, 8, [.pv .nilfn]⟩,
  ⟨.scalar, 1, 8, [.pv .nilfn]⟩,
  ⟨.scalar, 1, 8, [.pv .nilfn]⟩,
  ⟨.scalar, 1, 8, [.pv .nilfn]⟩,
  ⟨.scalar, 1, 8, [.pv .nilfn]⟩,
  ⟨.scalar, 1, 8, [.pv .nilfn]⟩,
  ⟨.scalar, 1, 8, [.pv .nilfn]⟩,
  ⟨(.struct [(35, 0), (3, 5), (4, 6)]), 7, 72, [.pv (.int .i64 0), .pv (.int .i64 0), .pv (.int .i64 0), .pv (.int .i64 0), .nil 6, .pv (.int .i64 0), .pv (.bool false)]⟩,
  ⟨(.struct [(35, 0), (3, 5), (4, 6)]), 7, 72, [.pv (.int .i64 0), .pv (.int .i64 0), .pv (.int .i64 0), .pv (.int .i64 0), .nil 6, .pv (.int .i64 0), .pv (.bool false)]⟩,
  ⟨.scalar, 1, 8, [.pv .nilfn]⟩,
  ⟨.scalar, 1, 8, [.pv .nilfn]⟩,
  ⟨.scalar, 1, 8, [.pv .nilfn]⟩,
  ⟨.scalar, 1, 8, [.pv .nilfn]⟩,
  ⟨.other, 1, 0, []⟩,
  ⟨.scalar, 1, 8, [.pv .nilfn]⟩,
  ⟨.scalar, 1, 8, [.pv .nilfn]⟩,
  ⟨.scalar, 1, 8, [.pv .nilfn]⟩,
  ⟨.scalar, 1, 8, [.pv .nilfn]⟩,
  ⟨.scalar, 1, 8, [.pv .nilfn]⟩,
  ⟨(.struct [(24, 0), (27, 1), (31, 2)]), 8, 160, [.nil 3, .nil 0, .nil 0, .nil 6, .pv (.int .i64 0), .nil 0, .nil 0, .pv (.int .i64 0)]⟩,
  ⟨(.struct [(24, 0), (27, 1), (31, 2)]), 8, 160, [.nil 3, .nil 0, .nil 0, .nil 6, .pv (.int .i64 0), .nil 0, .nil 0, .pv (.int .i64 0)]⟩,
  ⟨.scalar, 1, 8, [.pv .nilfn]⟩,
  ⟨.scalar, 1, 8, [.pv .nilfn]⟩,
  ⟨(.map 9 3), 1, 8, [.pv (.con (.map none))]⟩,
  ⟨.scalar, 1, 8, [.pv .nilfn]⟩,
  ⟨.scalar, 1, 8, [.pv .nilfn]⟩,
  ⟨.scalar, 1, 8, [.pv .nilfn]⟩,
  ⟨.scalar, 1, 8, [.pv .nilfn]⟩,
  ⟨(.arr 2 3), 2, 16, [.pv (.int .i64 0), .pv (.int .i64 0)]⟩,
  ⟨.scalar, 1, 8, [.pv .nilfn]⟩,
  ⟨.scalar, 1, 8, [.pv .nilfn]⟩,
  ⟨.scalar, 1, 8, [.pv .nilfn]⟩,
  ⟨.scalar, 1, 8, [.pv .nilfn]⟩,
  ⟨.scalar, 1, 8, [.pv .nilfn]⟩,
  ⟨.scalar, 1, 8, [.pv .nilfn]⟩,
  ⟨.scalar, 1, 8, [.pv .nilfn]⟩,
  ⟨.scalar, 1, 8, [.pv .nilfn]⟩,
  ⟨.scalar, 1, 8, [.pv .nilfn]⟩,
  ⟨.scalar, 1, 8, [.pv .nilfn]⟩,
  ⟨.scalar, 1, 8, [.pv .nilfn]⟩,
  ⟨.scalar, 1, 8, [.pv .nilfn]⟩,
  ⟨.scalar, 1, 8, [.pv .nilfn]⟩,
  ⟨.scalar, 1, 8, [.pv .nilfn]⟩,
  ⟨.scalar, 1, 8, [.pv .nilfn]⟩,
  ⟨.scalar, 1, 8, [.pv .nilfn]⟩,
  ⟨.scalar, 1, 8, [.pv .nilfn]⟩,
  ⟨.scalar, 1, 8, [.pv .nilfn]⟩,
  ⟨.scalar, 1, 8, [.pv .nilfn]⟩,
  ⟨.scalar, 1, 8, [.pv .nilfn]⟩,
  ⟨.scalar, 1, 8, [.pv .nilfn]⟩,
  ⟨.scalar, 1, 8, [.pv .nilfn]⟩,
  ⟨(.int .i64), 1, 8, [.pv (.int .i64 0)]⟩,
  ⟨.other, 1, 0, []⟩,
  ⟨.scalar, 1, 8, [.pv .nilfn]⟩,
  ⟨.scalar, 1, 8, [.pv .nilfn]⟩,
  ⟨.scalar, 1, 8, [.pv .nilfn]⟩,
  ⟨.scalar, 1, 8, [.pv .nilfn]⟩,
  ⟨.scalar, 1, 8, [.pv .nilfn]⟩,
  ⟨.scalar, 1, 8, [.pv .nilfn]⟩,
  ⟨(.arr 16 4), 16, 16, [.pv (.bool false), .pv (.bool false), .pv (.bool false), .pv (.bool false), .pv (.bool false), .pv (.bool false), .pv (.bool false), .pv (.bool false), .pv (.bool false), .pv (.bool false), .pv (.bool false), .pv (.bool false), .pv (.bool false), .pv (.bool false), .pv (.bool false), .pv (.bool false)]⟩,
  ⟨.scalar, 1, 8, [.pv .nilfn]⟩,
  ⟨.scalar, 1, 8, [.pv .nilfn]⟩,
  ⟨.scalar, 1, 8, [.pv .nilfn]⟩,
  ⟨.scalar, 1, 8, [.pv .nilfn]⟩,
  ⟨.scalar, 1, 8, [.pv .nilfn]⟩,
  ⟨.scalar, 1, 8, [.pv .nilfn]⟩,
  ⟨.scalar, 1, 8, [.pv .nilfn]⟩,
  ⟨.scalar, 1, 8, [.pv .nilfn]⟩,
  ⟨(.struct [(3, 0), (3, 1)]), 2, 16, [.pv (.int .i64 0), .pv (.int .i64 0)]⟩,
  ⟨(.struct [(3, 0), (3, 1)]), 2, 16, [.pv (.int .i64 0), .pv (.int .i64 0)]⟩,
  ⟨.scalar, 1, 8, [.pv .nilfn]⟩,
  ⟨(.struct [(35, 0)]), 5, 56, [.pv (.int .i64 0), .pv (.int .i64 0), .pv (.int .i64 0), .pv (.int .i64 0), .nil 6]⟩,
  ⟨(.struct [(35, 0)]), 5, 56, [.pv (.int .i64 0), .pv (.int .i64 0), .pv (.int .i64 0), .pv (.int .i64 0), .nil 6]⟩,
  ⟨.scalar, 1, 8, [.pv .nilfn]⟩,
  ⟨.scalar, 1, 8, [.pv .nilfn]⟩,
  ⟨.scalar, 1, 8, [.pv .nilfn]⟩,
  ⟨.scalar, 1, 8, [.pv .nilfn]⟩,
  ⟨.scalar, 1, 8, [.pv .nilfn]⟩,
  ⟨.scalar, 1, 8, [.pv (.con (.pointer none))]⟩,
  ⟨(.slice 5), 1, 24, [.nil 0]⟩,
  ⟨(.struct [(150, 0), (151, 1)]), 2, 32, [.pv (.con (.pointer none)), .nil 0]⟩,
  ⟨(.struct [(150, 0), (151, 1)]), 2, 32, [.pv (.con (.pointer none)), .nil 0]⟩,
  ⟨.scalar, 1, 16, [.pv (.con .nilIface)]⟩,
  ⟨.scalar, 1, 16, [.pv (.con .nilIface)]⟩,
  ⟨.other, 1, 0, []⟩,
  ⟨.scalar, 1, 8, [.pv .nilfn]⟩,
  ⟨.scalar, 1, 8, [.pv .nilfn]⟩,
  ⟨.scalar, 1, 8, [.pv .nilfn]⟩,
  ⟨.scalar, 1, 8, [.pv .nilfn]⟩,
  ⟨.scalar, 1, 8, [.pv .nilfn]⟩,
  ⟨.other, 0, 0, []⟩,
  ⟨.other, 0, 0, []⟩,
  ⟨.scalar, 1, 8, [.pv .nilfn]⟩,
  ⟨.scalar, 1, 8, [.pv .nilfn]⟩,
  ⟨.scalar, 1, 8, [.pv .nilfn]⟩,
  ⟨.scalar, 1, 8, [.pv .nilfn]⟩,
  ⟨.scalar, 1, 8, [.pv .nilfn]⟩,
  ⟨.scalar, 1, 8, [.pv .nilfn]⟩,
  ⟨.scalar, 1, 8, [.pv .nilfn]⟩,
  ⟨.scalar, 1, 8, [.pv .nilfn]⟩,
  ⟨.scalar, 1, 8, [.pv .nilfn]⟩,
  ⟨.scalar, 1, 8, [.pv .nilfn]⟩,
  ⟨.scalar, 1, 8, [.pv .nilfn]⟩,
  ⟨.scalar, 1, 8, [.pv .nilfn]⟩,
  ⟨(.map 100 38), 1, 8, [.pv (.con (.map none))]⟩,
  ⟨(.slice 100), 1, 24, [.nil 3]⟩,
  ⟨.scalar, 1, 8, [.pv .nilfn]⟩,
  ⟨.scalar, 1, 8, [.pv .nilfn]⟩,
  ⟨.scalar, 1, 8, [.pv .nilfn]⟩,
  ⟨.scalar, 1, 8, [.pv .nilfn]⟩,
  ⟨(.slice 4), 1, 24, [.nil 0]⟩,
  ⟨.scalar, 1, 8, [.pv .nilfn]⟩,
  ⟨.scalar, 1, 8, [.pv .nilfn]⟩,
  ⟨.scalar, 1, 8, [.pv .nilfn]⟩,
  ⟨.scalar, 1, 8, [.pv .nilfn]⟩,
  ⟨.scalar, 1, 8, [.pv .nilfn]⟩,
  ⟨.scalar, 1, 8, [.pv .nilfn]⟩,
  ⟨.scalar, 1, 8, [.pv .nilfn]⟩,
  ⟨.scalar, 1, 8, [.pv .nilfn]⟩,
  ⟨.scalar, 1, 8, [.pv .nilfn]⟩,
  ⟨(.slice 32), 1, 24, [.nil 3]⟩,
  ⟨.scalar, 1, 8, [.pv .nilfn]⟩,
  ⟨.scalar, 1, 8, [.pv .nilfn]⟩,
  ⟨(.map 196 38), 1, 8, [.pv (.con (.map none))]⟩,
  ⟨(.arr 2 3), 2, 16, [.pv (.int .i64 0), .pv (.int .i64 0)]⟩,
  ⟨.other, 1, 0, []⟩,
  ⟨.scalar, 1, 8, [.pv .nilfn]⟩,
  ⟨.scalar, 1, 8, [.pv .nilfn]⟩,
  ⟨.scalar, 1, 8, [.pv .nilfn]⟩,
  ⟨.scalar, 1, 8, [.pv .nilfn]⟩,
  ⟨.scalar, 1, 8, [.pv (.con (.pointer none))]⟩,
  ⟨(.slice 28), 1, 24, [.nil 0]⟩,
  ⟨.scalar, 1, 8, [.pv .nilfn]⟩,
  ⟨.scalar, 1, 8, [.pv .nilfn]⟩,
  ⟨.scalar, 1, 8, [.pv .nilfn]⟩,
  ⟨.scalar, 1, 8, [.pv .nilfn]⟩,
  ⟨.scalar, 1, 8, [.pv .nilfn]⟩,
  ⟨(.int .u64), 1, 8, [.pv (.int .u64 0)]⟩,
  ⟨.scalar, 1, 8, [.pv .nilfn]⟩,
  ⟨.other, 1, 0, []⟩,
  ⟨.scalar, 1, 8, [.pv .nilfn]⟩,
  ⟨.scalar, 1, 8, [.pv .nilfn]⟩,
  ⟨.scalar, 1, 8, [.pv .nilfn]⟩,
  ⟨.scalar, 1, 8, [.pv .nilfn]⟩,
  ⟨.scalar, 1, 8, [.pv .nilfn]⟩,
  ⟨(.int .u64), 1, 8, [.pv (.int .u64 0)]⟩,
  ⟨.other, 1, 0, []⟩,
  ⟨.scalar, 1, 8, [.pv .nilfn]⟩,
  ⟨.scalar, 1, 8, [.pv .nilfn]⟩,
  ⟨.scalar, 1, 8, [.pv .nilfn]⟩,
  ⟨.scalar, 1, 8, [.pv .nilfn]⟩,
  ⟨.scalar, 1, 8, [.pv .nilfn]⟩,
  ⟨.scalar, 1, 8, [.pv .nilfn]⟩,
  ⟨.other, 1, 0, []⟩,
  ⟨.scalar, 1, 8, [.pv .nilfn]⟩,
  ⟨.scalar, 1, 8, [.pv .nilfn]⟩,
  ⟨.other, 1, 0, []⟩,
  ⟨.scalar, 1, 8, [.pv .nilfn]⟩,
  ⟨.scalar, 1, 8, [.pv .nilfn]⟩,
  ⟨.other, 1, 8, []⟩,
  ⟨.scalar, 1, 8, [.pv .nilfn]⟩,
  ⟨.scalar, 1, 8, [.pv .nilfn]⟩,
  ⟨.scalar, 1, 8, [.pv .nilfn]⟩,
  ⟨(.struct [(3, 0), (3, 1), (181, 2)]), 3, 24, [.pv (.int .i64 0), .pv (.int .i64 0), .pv .nilfn]⟩,
  ⟨(.struct [(3, 0), (3, 1), (181, 2)]), 3, 24, [.pv (.int .i64 0), .pv (.int .i64 0), .pv .nilfn]⟩,
  ⟨.scalar, 1, 8, [.pv .nilfn]⟩,
  ⟨.scalar, 1, 8, [.pv .nilfn]⟩,
  ⟨(.int .i64), 1, 8, [.pv (.int .i64 0)]⟩,
  ⟨.other, 1, 0, []⟩,
  ⟨.scalar, 1, 8, [.pv .nilfn]⟩,
  ⟨.scalar, 1, 8, [.pv .nilfn]⟩,
  ⟨.scalar, 1, 8, [.pv .nilfn]⟩,
  ⟨.scalar, 1, 8, [.pv .nilfn]⟩,
  ⟨.scalar, 1, 8, [.pv .nilfn]⟩,
  ⟨(.int .u32), 1, 4, [.pv (.int .u32 0)]⟩,
  ⟨.scalar, 1, 8, [.pv .nilfn]⟩,
  ⟨.scalar, 1, 8, [.pv .nilfn]⟩,
  ⟨.scalar, 1, 8, [.pv .nilfn]⟩,
  ⟨.scalar, 1, 8, [.pv .nilfn]⟩,
  ⟨.scalar, 1, 8, [.pv .nilfn]⟩,
  ⟨.scalar, 1, 8, [.pv .nilfn]⟩,
  ⟨.scalar, 1, 8, [.pv .nilfn]⟩,
  ⟨(.arr 24 5), 24, 24, [.pv (.int .u8 0), .pv (.int .u8 0), .pv (.int .u8 0), .pv (.int .u8 0), .pv (.int .u8 0), .pv (.int .u8 0), .pv (.int .u8 0), .pv (.int .u8 0), .pv (.int .u8 0), .pv (.int .u8 0), .pv (.int .u8 0), .pv (.int .u8 0), .pv (.int .u8 0), .pv (.int .u8 0), .pv (.int .u8 0), .pv (.int .u8 0), .pv (.int .u8 0), .pv (.int .u8 0), .pv (.int .u8 0), .pv (.int .u8 0), .pv (.int .u8 0), .pv (.int .u8 0), .pv (.int .u8 0), .pv (.int .u8 0)]⟩,
  ⟨.scalar, 1, 8, [.pv .nilfn]⟩,
  ⟨.other, 1, 0, []⟩,
  ⟨.scalar, 1, 8, [.pv .nilfn]⟩,
  ⟨.scalar, 1, 8, [.pv .nilfn]⟩,
  ⟨(.int .u64), 1, 8, [.pv (.int .u64 0)]⟩,
  ⟨.scalar, 1, 8, [.pv .nilfn]⟩,
  ⟨.scalar, 1, 8, [.pv .nilfn]⟩,
  ⟨.scalar, 1, 8, [.pv .nilfn]⟩,
  ⟨.scalar, 1, 8, [.pv (.con (.pointer none))]⟩,
  ⟨.scalar, 1, 8, [.pv .nilfn]⟩,
  ⟨.scalar, 1, 8, [.pv .nilfn]⟩,
  ⟨.scalar, 1, 8, [.pv .nilfn]⟩,
  ⟨.scalar, 1, 8, [.pv .nilfn]⟩,
  ⟨.scalar, 1, 8, [.pv .nilfn]⟩,
  ⟨(.arr 20 217), 20, 160, [.pv (.int .u64 0), .pv (.int .u64 0), .pv (.int .u64 0), .pv (.int .u64 0), .pv (.int .u64 0), .pv (.int .u64 0), .pv (.int .u64 0), .pv (.int .u64 0), .pv (.int .u64 0), .pv (.int .u64 0), .pv (.int .u64 0), .pv (.int .u64 0), .pv (.int .u64 0), .pv (.int .u64 0), .pv (.int .u64 0), .pv (.int .u64 0), .pv (.int .u64 0), .pv (.int .u64 0), .pv (.int .u64 0), .pv (.int .u64 0)]⟩,
  ⟨.other, 65, 65, []⟩,
  ⟨.scalar, 1, 8, [.pv .nilfn]⟩,
  ⟨.scalar, 1, 8, [.pv .nilfn]⟩,
  ⟨.scalar, 1, 8, [.pv .nilfn]⟩,
  ⟨.scalar, 1, 8, [.pv .nilfn]⟩,
  ⟨.scalar, 1, 8, [.pv .nilfn]⟩,
  ⟨.scalar, 1, 8, [.pv (.con (.pointer none))]⟩,
  ⟨.other, 1, 0, []⟩,
  ⟨.scalar, 1, 8, [.pv .nilfn]⟩,
  ⟨.scalar, 1, 8, [.pv .nilfn]⟩,
  ⟨.scalar, 1, 8, [.pv .nilfn]⟩,
  ⟨.scalar, 1, 8, [.pv .nilfn]⟩,
  ⟨(.arr 32 5), 32, 32, [.pv (.int .u8 0), .pv (.int .u8 0), .pv (.int .u8 0), .pv (.int .u8 0), .pv (.int .u8 0), .pv (.int .u8 0), .pv (.int .u8 0), .pv (.int .u8 0), .pv (.int .u8 0), .pv (.int .u8 0), .pv (.int .u8 0), .pv (.int .u8 0), .pv (.int .u8 0), .pv (.int .u8 0), .pv (.int .u8 0), .pv (.int .u8 0), .pv (.int .u8 0), .pv (.int .u8 0), .pv (.int .u8 0), .pv (.int .u8 0), .pv (.int .u8 0), .pv (.int .u8 0), .pv (.int .u8 0), .pv (.int .u8 0), .pv (.int .u8 0), .pv (.int .u8 0), .pv (.int .u8 0), .pv (.int .u8 0), .pv (.int .u8 0), .pv (.int .u8 0), .pv (.int .u8 0), .pv (.int .u8 0)]⟩,
  ⟨(.arr 64 5), 64, 64, [.pv (.int .u8 0), .pv (.int .u8 0), .pv (.int .u8 0), .pv (.int .u8 0), .pv (.int .u8 0), .pv (.int .u8 0), .pv (.int .u8 0), .pv (.int .u8 0), .pv (.int .u8 0), .pv (.int .u8 0), .pv (.int .u8 0), .pv (.int .u8 0), .pv (.int .u8 0), .pv (.int .u8 0), .pv (.int .u8 0), .pv (.int .u8 0), .pv (.int .u8 0), .pv (.int .u8 0), .pv (.int .u8 0), .pv (.int .u8 0), .pv (.int .u8 0), .pv (.int .u8 0), .pv (.int .u8 0), .pv (.int .u8 0), .pv (.int .u8 0), .pv (.int .u8 0), .pv (.int .u8 0), .pv (.int .u8 0), .pv (.int .u8 0), .pv (.int .u8 0), .pv (.int .u8 0), .pv (.int .u8 0), .pv (.int .u8 0), .pv (.int .u8 0), .pv (.int .u8 0), .pv (.int .u8 0), .pv (.int .u8 0), .pv (.int .u8 0), .pv (.int .u8 0), .pv (.int .u8 0), .pv (.int .u8 0), .pv (.int .u8 0), .pv (.int .u8 0), .pv (.int .u8 0), .pv (.int .u8 0), .pv (.int .u8 0), .pv (.int .u8 0), .pv (.int .u8 0), .pv (.int .u8 0), .pv (.int .u8 0), .pv (.int .u8 0), .pv (.int .u8 0), .pv (.int .u8 0), .pv (.int .u8 0), .pv (.int .u8 0), .pv (.int .u8 0), .pv (.int .u8 0), .pv (.int .u8 0), .pv (.int .u8 0), .pv (.int .u8 0), .pv (.int .u8 0), .pv (.int .u8 0), .pv (.int .u8 0), .pv (.int .u8 0)]⟩,
  ⟨.other, 4, 40, []⟩,
  ⟨.other, 4, 40, []⟩,
  ⟨.other, 0, 0, []⟩,
  ⟨.other, 0, 0, []⟩,
  ⟨.other, 0, 0, []⟩,
  ⟨(.int .u8), 1, 1, [.pv (.int .u8 0)]⟩,
  ⟨(.int .u8), 1, 1, [.pv (.int .u8 0)]⟩,
  ⟨.scalar, 1, 8, [.pv .nilfn]⟩,
  ⟨(.int .i32), 1, 4, [.pv (.int .i32 0)]⟩,
  ⟨(.int .i32), 1, 4, [.pv (.int .i32 0)]⟩,
  ⟨.other, 11, 48, []⟩,
  ⟨.other, 11, 48, []⟩]
def h8 : Hint := ⟨4, ⟨[14, 96], [], [], [], [], []⟩, [(12, [6, 11, 13, 14, 15, 16])], [(12, [8, 11, 13, 14])], [(18, [28])], [(5, [4, 5, 6, 7]), (16, [6, 11, 13, 14, 15, 16])]⟩
noncomputable def fi8 : FnI := mkFn Tryz.f8 h8
def h16 : Hint := ⟨2, ⟨[], [], [], [], [], []⟩, [(5, [2, 3, 5, 27, 28]), (11, [51])], [(5, [5]), (11, [4])], [], [(3, [2, 3])]⟩
noncomputable def fi16 : FnI := mkFnS Tryz.f16 h16 3 5
def h17 : Hint := ⟨2, ⟨[], [12, 13], [], [], [], []⟩, [], [], [], []⟩
noncomputable def fi17 : FnI := mkFn Tryz.f17 h17
def h18 : Hint := ⟨0, ⟨[], [], [], [], [], []⟩, [], [], [], []⟩
noncomputable def fi18 : FnI := mkFn Tryz.f18 h18
def h19 : Hint := ⟨3, ⟨[], [], [], [], [], []⟩, [], [], [], []⟩
noncomputable def fi19 : FnI := mkFn Tryz.f19 h19
def h20 : Hint := ⟨2, ⟨[], [], [], [], [], []⟩, [(5, [2, 5, 6])], [(5, [4])], [], [(4, [2, 5])]⟩
noncomputable def fi20 : FnI := mkFn Tryz.f20 h20
def h21 : Hint := ⟨3, ⟨[], [], [], [], [], []⟩, [], [], [], [(3, [3, 4, 5, 6])]⟩
noncomputable def fi21 : FnI := mkFn Tryz.f21 h21
def h22 : Hint := ⟨2, ⟨[], [], [], [], [], []⟩, [(6, [3, 6, 43, 44, 45])], [(6, [3, 4, 6])], [], [(4, [2, 3]), (14, [3, 10])]⟩
noncomputable def fi22 : FnI := mkFn Tryz.f22 h22
def h23 : Hint := ⟨2, ⟨[], [], [], [], [], []⟩, [(4, [0, 1, 5])], [(4, [4])], [], []⟩
noncomputable def fi23 : FnI := mkFn Tryz.f23 h23
def h25 : Hint := ⟨4, ⟨[], [36, 37, 38], [], [], [], []⟩, [], [], [], [(3, [4, 5, 6, 7, 8])]⟩
noncomputable def fi25 : FnI := mkFn Tryz.f25 h25
def h27 : Hint := ⟨3, ⟨[], [], [], [], [], []⟩, [], [], [], []⟩
noncomputable def fi27 : FnI := mkFn Tryz.f27 h27
def h28 : Hint := ⟨1, ⟨[], [], [], [], [], []⟩, [], [], [], []⟩
noncomputable def fi28 : FnI := mkFn Tryz.f28 h28
def h29 : Hint := ⟨2, ⟨[], [], [], [], [], []⟩, [(3, [1, 2, 5, 6])], [(3, [5])], [], [(5, [1, 2, 5, 6])]⟩
noncomputable def fi29 : FnI := mkFn Tryz.f29 h29
def h32 : Hint := ⟨2, ⟨[], [], [], [], [], []⟩, [], [], [], []⟩
noncomputable def fi32 : FnI := mkFn Tryz.f32 h32
def h35 : Hint := ⟨2, ⟨[], [], [], [], [], []⟩, [(5, [2, 3, 6])], [(5, [4])], [], [(4, [2, 3])]⟩
noncomputable def fi35 : FnI := mkFn Tryz.f35 h35
def h36 : Hint := ⟨4, ⟨[], [], [], [], [], []⟩, [], [], [], []⟩
noncomputable def fi36 : FnI := mkFn Tryz.f36 h36
def h39 : Hint := ⟨2, ⟨[6, 10, 13, 42, 66, 72], [], [], [], [], []⟩, [(5, [1, 2, 4, 6, 26, 27, 28]), (14, [4, 6, 10, 48, 49, 50]), (18, [4, 6, 10, 12, 13, 48, 49, 50, 54, 55, 56])], [(5, [1, 2, 4, 5, 6]), (14, [4, 10]), (18, [4, 6, 10, 13, 48, 49, 50])], [(22, [26]), (24, [20])], [(3, [1, 2, 4])]⟩
noncomputable def fi39 : FnI := mkFn Tryz.f39 h39
def h40 : Hint := ⟨2, ⟨[], [], [], [], [], []⟩, [], [], [], []⟩
noncomputable def fi40 : FnI := mkFn Tryz.f40 h40
def h41 : Hint := ⟨1, ⟨[3], [], [], [], [], []⟩, [(3, [1, 3, 10, 11, 12]), (11, [1, 6, 31, 32, 33])], [(3, [1, 2]), (11, [1, 2])], [], []⟩
noncomputable def fi41 : FnI := mkFn Tryz.f41 h41
def h42 : Hint := ⟨2, ⟨[], [], [], [], [], []⟩, [], [], [], []⟩
noncomputable def fi42 : FnI := mkFn Tryz.f42 h42
def h46 : Hint := ⟨0, ⟨[], [], [], [], [], []⟩, [], [], [], []⟩
noncomputable def fi46 : FnI := mkFn Tryz.f46 h46
def h50 : Hint := ⟨2, ⟨[], [28, 35], [], [], [], []⟩, [(4, [2, 21, 22, 23])], [(4, [4])], [], [(3, [2, 3])]⟩
noncomputable def fi50 : FnI := mkFn Tryz.f50 h50
def h52 : Hint := ⟨2, ⟨[], [], [], [], [], []⟩, [(4, [0, 1, 12, 13])], [(4, [4])], [], []⟩ -- slices.Equal[[]int,int]
noncomputable def fi52 : FnI := mkFn Tryz.f52 h52
def h53 : Hint := ⟨1, ⟨[], [21, 23], [], [], [], []⟩, [(3, [3, 6, 7, 8])], [(3, [3])], [], []⟩
noncomputable def fi53 : FnI := mkFn Tryz.f53 h53
def h54 : Hint := ⟨2, ⟨[], [], [], [], [], []⟩, [(2, [0, 1, 7, 8])], [(2, [4])], [], []⟩ -- slices.Index[[]int,int]
noncomputable def fi54 : FnI := mkFn Tryz.f54 h54
def h55 : Hint := ⟨2, ⟨[], [23], [], [], [], []⟩, [(2, [0, 1, 5])], [(2, [4])], [], []⟩ -- slices.IsSortedFunc[[][]roadbook/api.Val,[]roadbook/api.Val]
noncomputable def fi55 : FnI := mkFn Tryz.f55 h55
def h56 : Hint := ⟨3, ⟨[], [], [], [], [], []⟩, [], [], [], []⟩
noncomputable def fi56 : FnI := mkFn Tryz.f56 h56
def h57 : Hint := ⟨2, ⟨[], [], [], [], [], []⟩, [], [], [], []⟩
noncomputable def fi57 : FnI := mkFn Tryz.f57 h57
def h58 : Hint := ⟨2, ⟨[], [], [], [], [], []⟩, [], [], [], [(3, [0, 1, 4]), (6, [4, 5])]⟩
noncomputable def fi58 : FnI := mkFn Tryz.f58 h58
def h59 : Hint := ⟨2, ⟨[], [], [], [], [], []⟩, [], [], [], []⟩
noncomputable def fi59 : FnI := mkFn Tryz.f59 h59
def h60 : Hint := ⟨1, ⟨[], [], [], [], [], []⟩, [], [], [], []⟩
noncomputable def fi60 : FnI := mkFn Tryz.f60 h60
def h61 : Hint := ⟨1, ⟨[], [], [], [], [], []⟩, [], [], [], []⟩
noncomputable def fi61 : FnI := mkFn Tryz.f61 h61
def h62 : Hint := ⟨3, ⟨[], [], [], [], [], []⟩, [(3, [0, 1, 2, 3, 4, 5])], [(3, [2, 3, 4])], [], []⟩
noncomputable def fi62 : FnI := mkFn Tryz.f62 h62
def h63 : Hint := ⟨2, ⟨[], [], [], [], [], []⟩, [], [], [], []⟩
noncomputable def fi63 : FnI := mkFn Tryz.f63 h63
def h64 : Hint := ⟨4, ⟨[10, 45], [], [], [], [], []⟩, [(5, [2, 3, 5, 8, 10, 36, 37])], [(5, [2, 5, 8, 10])], [(9, [20])], [(3, [2, 3, 4, 5, 8])]⟩
noncomputable def fi64 : FnI := mkFn Tryz.f64 h64
def h65 : Hint := ⟨2, ⟨[6, 65], [], [], [], [], []⟩, [(5, [3, 4, 6, 45, 46, 47]), (8, [3, 4, 6, 8, 45, 46, 47, 52, 53, 54])], [(5, [4, 6]), (8, [3, 4, 6, 45, 46, 47])], [(2, [12]), (13, [12])], [(4, [2, 3, 4, 6])]⟩
noncomputable def fi65 : FnI := mkFn Tryz.f65 h65
def h66 : Hint := ⟨2, ⟨[], [], [], [], [], []⟩, [], [], [], []⟩
noncomputable def fi66 : FnI := mkFn Tryz.f66 h66
def h67 : Hint := ⟨1, ⟨[], [], [], [], [], []⟩, [], [], [], []⟩
noncomputable def fi67 : FnI := mkFn Tryz.f67 h67
def h68 : Hint := ⟨2, ⟨[], [], [], [], [], []⟩, [], [], [], []⟩ -- slices.ContainsFunc[[]int,int]
noncomputable def fi68 : FnI := mkFn Tryz.f68 h68
def h69 : Hint := ⟨3, ⟨[7, 52], [], [], [], [], []⟩, [(3, [2, 3, 4, 7, 14, 15]), (8, [2, 3, 4, 7, 8, 14, 15, 43, 44])], [(3, [7]), (8, [2, 3, 4, 7, 14, 15])], [], [(7, [2, 3, 4, 7, 8, 9, 14, 15])]⟩
noncomputable def fi69 : FnI := mkFn Tryz.f69 h69
def h70 : Hint := ⟨1, ⟨[], [], [], [], [], []⟩, [], [], [], []⟩
noncomputable def fi70 : FnI := mkFn Tryz.f70 h70
def h71 : Hint := ⟨1, ⟨[3], [8, 9, 11, 13], [], [(13, [(.pv .undef, [.dead])])], [11], []⟩, [], [], [(4, []), (5, []), (6, [])], []⟩
noncomputable def fi71 : FnI := mkFn Tryz.f71 h71
def h72 : Hint := ⟨2, ⟨[], [], [], [], [], []⟩, [], [], [], []⟩
noncomputable def fi72 : FnI := mkFn Tryz.f72 h72
def h73 : Hint := ⟨1, ⟨[], [5, 7, 9], [5], [(5, [(.view 0 0 none, [.row false 0 0 []])]), (9, [(.pv .undef, [.dead])])], [7], []⟩, [], [], [(2, []), (3, [])], []⟩
noncomputable def fi73 : FnI := mkFn Tryz.f73 h73
def h74 : Hint := ⟨2, ⟨[], [], [], [], [], []⟩, [], [], [], []⟩ -- slices.Contains[[]int,int]
noncomputable def fi74 : FnI := mkFn Tryz.f74 h74
def h77 : Hint := ⟨1, ⟨[], [], [], [], [], []⟩, [], [], [], []⟩
noncomputable def fi77 : FnI := mkFn Tryz.f77 h77
def h78 : Hint := ⟨5, ⟨[], [41, 47], [], [], [], [8, 9, 41, 47]⟩, [], [], [], []⟩
noncomputable def fi78 : FnI := mkFn Tryz.f78 h78
def h79 : Hint := ⟨2, ⟨[5, 21], [], [], [], [], []⟩, [(3, [2, 5, 8, 9, 10])], [(3, [5])], [], []⟩
noncomputable def fi79 : FnI := mkFn Tryz.f79 h79
def h80 : Hint := ⟨3, ⟨[], [16, 17], [], [], [], []⟩, [], [], [], []⟩
noncomputable def fi80 : FnI := mkFn Tryz.f80 h80
def h81 : Hint := ⟨2, ⟨[], [5], [], [], [], []⟩, [], [], [], []⟩
noncomputable def fi81 : FnI := mkFn Tryz.f81 h81
def h82 : Hint := ⟨2, ⟨[], [], [], [], [], []⟩, [], [], [], []⟩
noncomputable def fi82 : FnI := mkFn Tryz.f82 h82
def h83 : Hint := ⟨2, ⟨[], [], [], [], [], []⟩, [], [], [], [(4, [1, 2, 11]), (7, [2, 6])]⟩
noncomputable def fi83 : FnI := mkFn Tryz.f83 h83
def h87 : Hint := ⟨3, ⟨[11, 15, 19, 23, 49, 68, 71, 75, 81, 93, 112, 137, 143, 149], [79], [], [], [79], []⟩, [(8, [1, 2, 3, 6, 8, 10, 11, 51, 52, 53]), (18, [2, 3, 6, 10, 11, 15, 84, 85]), (23, [2, 3, 6, 10, 15, 96, 97, 98]), (27, [2, 3, 6, 10, 15, 18, 19, 96, 97, 98, 113, 114, 115]), (32, [2, 3, 6, 10, 15, 18, 19, 22, 23, 96, 97, 98, 113, 114, 115, 125, 126, 127])], [(8, [1, 2, 3, 6, 10, 11]), (18, [2, 3, 6, 10, 11, 15]), (23, [6, 15]), (27, [2, 3, 6, 10, 15, 19, 96, 97, 98]), (32, [2, 3, 6, 10, 15, 18, 19, 23, 96, 97, 98, 113, 114, 115])], [(15, []), (36, [46]), (38, [38]), (40, [30])], [(5, [1, 2, 3, 6, 8]), (13, [1, 2, 3, 6, 8, 10, 11, 13, 14, 51, 52, 53])]⟩
noncomputable def fi87 : FnI := mkFn Tryz.f87 h87
def h93 : Hint := ⟨2, ⟨[], [], [], [], [], []⟩, [(4, [0, 1, 5])], [(4, [4])], [], []⟩
noncomputable def fi93 : FnI := mkFn Tryz.f93 h93
def h96 : Hint := ⟨1, ⟨[2, 5, 7], [], [], [], [], []⟩, [], [], [], []⟩ -- slices.Clone[[]int,int]
noncomputable def fi96 : FnI := mkFn Tryz.f96 h96
def h97 : Hint := ⟨2, ⟨[5, 23], [19], [], [], [], []⟩, [(3, [1, 5, 9, 10, 11])], [(3, [5])], [], []⟩
noncomputable def fi97 : FnI := mkFn Tryz.f97 h97
def h98 : Hint := ⟨2, ⟨[], [], [], [], [], []⟩, [], [], [], []⟩
noncomputable def fi98 : FnI := mkFn Tryz.f98 h98
def h99 : Hint := ⟨1, ⟨[], [], [], [], [], []⟩, [], [], [], []⟩
noncomputable def fi99 : FnI := mkFn Tryz.f99 h99
def h100 : Hint := ⟨1, ⟨[], [], [], [], [], []⟩, [], [], [], []⟩
noncomputable def fi100 : FnI := mkFn Tryz.f100 h100
def h101 : Hint := ⟨2, ⟨[], [], [], [], [], []⟩, [], [], [], []⟩ -- slices.ContainsFunc[[]roadbook/api.Val,roadbook/api.Val]
noncomputable def fi101 : FnI := mkFn Tryz.f101 h101
def h102 : Hint := ⟨2, ⟨[5, 27], [], [], [], [], []⟩, [(3, [1, 4, 5, 13, 14, 15])], [(3, [4, 5])], [(8, [])], []⟩
noncomputable def fi102 : FnI := mkFn Tryz.f102 h102
def h103 : Hint := ⟨3, ⟨[], [], [], [], [], []⟩, [], [], [], []⟩
noncomputable def fi103 : FnI := mkFn Tryz.f103 h103
def h104 : Hint := ⟨2, ⟨[], [], [], [], [], []⟩, [], [], [], []⟩ -- slices.ContainsFunc[[]roadbook/api.Expr,roadbook/api.Expr]
noncomputable def fi104 : FnI := mkFn Tryz.f104 h104
def h105 : Hint := ⟨3, ⟨[], [], [], [], [], []⟩, [], [], [], []⟩
noncomputable def fi105 : FnI := mkFn Tryz.f105 h105
def h106 : Hint := ⟨3, ⟨[], [], [], [], [], []⟩, [], [], [], []⟩
noncomputable def fi106 : FnI := mkFn Tryz.f106 h106
def h113 : Hint := ⟨3, ⟨[], [], [], [], [], []⟩, [], [], [], []⟩
noncomputable def fi113 : FnI := mkFn Tryz.f113 h113
def h114 : Hint := ⟨2, ⟨[], [], [], [], [], []⟩, [], [], [], []⟩
noncomputable def fi114 : FnI := mkFn Tryz.f114 h114
def h115 : Hint := ⟨2, ⟨[], [7], [], [], [], []⟩, [], [], [], []⟩ -- slices.ContainsFunc[[][]roadbook/api.Val,[]roadbook/api.Val]
noncomputable def fi115 : FnI := mkFn Tryz.f115 h115
def h124 : Hint := ⟨2, ⟨[], [], [], [], [], []⟩, [(2, [0, 1, 9, 10, 11])], [(2, [0, 1, 4])], [], []⟩ -- slices.Compare[[]int,int]
noncomputable def fi124 : FnI := mkFn Tryz.f124 h124
def h125 : Hint := ⟨2, ⟨[], [], [], [], [], []⟩, [(3, [3, 5, 6])], [(3, [5])], [], [(2, [3, 5]), (5, [3, 6])]⟩
noncomputable def fi125 : FnI := mkFn Tryz.f125 h125
def h126 : Hint := ⟨1, ⟨[], [], [], [], [], []⟩, [(3, [1, 3, 4]), (7, [1, 3, 4, 5])], [(3, [3]), (7, [1, 3, 4])], [], [(5, [1, 4]), (9, [1, 4, 5])]⟩
noncomputable def fi126 : FnI := mkFn Tryz.f126 h126
def h128 : Hint := ⟨3, ⟨[], [], [], [], [], []⟩, [], [], [], []⟩
noncomputable def fi128 : FnI := mkFn Tryz.f128 h128
def h129 : Hint := ⟨2, ⟨[], [], [], [], [], []⟩, [], [], [], [(3, [0, 1])]⟩
noncomputable def fi129 : FnI := mkFn Tryz.f129 h129
def h130 : Hint := ⟨1, ⟨[6, 24, 33], [24], [24], [(24, [(.view 0 0 none, [.row false 0 0 []])])], [], []⟩, [(3, [0, 3, 9, 10, 11]), (11, [6, 25, 26, 27])], [(3, [0, 3]), (11, [6])], [], []⟩ -- slices.Concat[[]int,int]
noncomputable def fi130 : FnI := mkFn Tryz.f130 h130
def h131 : Hint := ⟨1, ⟨[6, 24, 33], [24], [24], [(24, [(.view 0 0 none, [.row false 0 3 []])])], [], []⟩, [(3, [0, 3, 9, 10, 11]), (11, [6, 25, 26, 27])], [(3, [0, 3]), (11, [6])], [], []⟩ -- slices.Concat[[]roadbook/api.Val,roadbook/api.Val]
noncomputable def fi131 : FnI := mkFn Tryz.f131 h131
def h132 : Hint := ⟨2, ⟨[], [], [], [], [], []⟩, [], [], [], []⟩ -- slices.ContainsFunc[[]roadbook/api.Def,roadbook/api.Def]
noncomputable def fi132 : FnI := mkFn Tryz.f132 h132
def h133 : Hint := ⟨1, ⟨[], [], [], [], [], []⟩, [], [], [], []⟩
noncomputable def fi133 : FnI := mkFn Tryz.f133 h133
def h134 : Hint := ⟨1, ⟨[], [], [], [], [], []⟩, [], [], [], []⟩
noncomputable def fi134 : FnI := mkFn Tryz.f134 h134
def h135 : Hint := ⟨2, ⟨[], [], [], [], [], []⟩, [(2, [0, 1, 7, 8])], [(2, [4])], [], []⟩ -- slices.IndexFunc[[]int,int]
noncomputable def fi135 : FnI := mkFn Tryz.f135 h135
def h136 : Hint := ⟨1, ⟨[], [5, 6], [], [], [], []⟩, [], [], [], []⟩
noncomputable def fi136 : FnI := mkFn Tryz.f136 h136
def h137 : Hint := ⟨3, ⟨[], [12, 25], [], [], [], []⟩, [(4, [1, 2, 15, 16, 17])], [(4, [6])], [], []⟩
noncomputable def fi137 : FnI := mkFn Tryz.f137 h137
def h138 : Hint := ⟨3, ⟨[2, 13], [], [], [], [], []⟩, [], [], [], []⟩
noncomputable def fi138 : FnI := mkFn Tryz.f138 h138
def h139 : Hint := ⟨1, ⟨[], [], [], [], [], []⟩, [], [], [], []⟩ -- slices.Sort[[]int,int]
noncomputable def fi139 : FnI := mkFn Tryz.f139 h139
def h140 : Hint := ⟨1, ⟨[0], [], [], [], [], []⟩, [(4, [0, 3]), (9, [0, 3, 4, 5])], [(4, [0, 2]), (9, [0, 3])], [], []⟩ -- slices.Compact[[]int,int]
noncomputable def fi140 : FnI := mkFn Tryz.f140 h140
def h141 : Hint := ⟨2, ⟨[], [], [], [], [], []⟩, [], [], [], []⟩
noncomputable def fi141 : FnI := mkFn Tryz.f141 h141
def h145 : Hint := ⟨4, ⟨[], [], [], [], [], []⟩, [], [], [], []⟩
noncomputable def fi145 : FnI := mkFn Tryz.f145 h145
def h154 : Hint := ⟨2, ⟨[], [], [], [], [], []⟩, [], [], [], []⟩
noncomputable def fi154 : FnI := mkFn Tryz.f154 h154
def h155 : Hint := ⟨2, ⟨[], [13], [], [], [], []⟩, [], [], [], []⟩ -- slices.SortFunc[[]roadbook/bag.key,roadbook/bag.key]
noncomputable def fi155 : FnI := mkFn Tryz.f155 h155
def h156 : Hint := ⟨1, ⟨[], [], [], [], [], []⟩, [], [], [], []⟩
noncomputable def fi156 : FnI := mkFn Tryz.f156 h156
def h157 : Hint := ⟨1, ⟨[], [], [], [], [], []⟩, [(6, [2, 3, 4, 5, 14, 15, 16])], [(6, [2, 3, 4, 5])], [], []⟩
noncomputable def fi157 : FnI := mkFn Tryz.f157 h157
def h164 : Hint := ⟨1, ⟨[], [], [], [], [], []⟩, [], [], [], []⟩
noncomputable def fi164 : FnI := mkFn Tryz.f164 h164
def h165 : Hint := ⟨2, ⟨[], [], [], [], [], []⟩, [(2, [0, 1, 7, 8])], [(2, [4])], [], []⟩ -- slices.IndexFunc[[]roadbook/api.Val,roadbook/api.Val]
noncomputable def fi165 : FnI := mkFn Tryz.f165 h165
def h166 : Hint := ⟨1, ⟨[2, 5, 7], [], [], [], [], []⟩, [], [], [], []⟩ -- slices.Clone[[]roadbook/api.Val,roadbook/api.Val]
noncomputable def fi166 : FnI := mkFn Tryz.f166 h166
def h167 : Hint := ⟨2, ⟨[], [], [], [], [], []⟩, [(2, [0, 1, 7, 8])], [(2, [4])], [], []⟩ -- slices.IndexFunc[[]roadbook/api.Expr,roadbook/api.Expr]
noncomputable def fi167 : FnI := mkFn Tryz.f167 h167
def h168 : Hint := ⟨1, ⟨[], [], [], [], [], []⟩, [], [], [], []⟩
noncomputable def fi168 : FnI := mkFn Tryz.f168 h168
def h169 : Hint := ⟨3, ⟨[], [], [], [], [], []⟩, [], [], [], []⟩
noncomputable def fi169 : FnI := mkFn Tryz.f169 h169
def h174 : Hint := ⟨1, ⟨[], [], [], [], [], []⟩, [], [], [], []⟩
noncomputable def fi174 : FnI := mkFn Tryz.f174 h174
def h175 : Hint := ⟨2, ⟨[], [16], [], [], [], []⟩, [(2, [0, 1, 7, 8])], [(2, [4])], [], []⟩ -- slices.IndexFunc[[][]roadbook/api.Val,[]roadbook/api.Val]
noncomputable def fi175 : FnI := mkFn Tryz.f175 h175
def h179 : Hint := ⟨2, ⟨[], [], [], [], [], []⟩, [], [], [], []⟩
noncomputable def fi179 : FnI := mkFn Tryz.f179 h179
def h182 : Hint := ⟨2, ⟨[], [], [], [], [], []⟩, [], [], [], []⟩
noncomputable def fi182 : FnI := mkFn Tryz.f182 h182
def h183 : Hint := ⟨2, ⟨[], [], [], [], [], []⟩, [], [], [], []⟩
noncomputable def fi183 : FnI := mkFn Tryz.f183 h183
def h184 : Hint := ⟨2, ⟨[0, 4, 22], [], [], [], [], []⟩, [], [], [], [(3, [0, 1])]⟩ -- slices.Grow[[]int,int]
noncomputable def fi184 : FnI := mkFn Tryz.f184 h184
def h185 : Hint := ⟨2, ⟨[0, 4, 22], [], [], [], [], []⟩, [], [], [], [(3, [0, 1])]⟩ -- slices.Grow[[]roadbook/api.Val,roadbook/api.Val]
noncomputable def fi185 : FnI := mkFn Tryz.f185 h185
def h186 : Hint := ⟨2, ⟨[], [], [], [], [], []⟩, [(2, [0, 1, 7, 8])], [(2, [4])], [], []⟩ -- slices.IndexFunc[[]roadbook/api.Def,roadbook/api.Def]
noncomputable def fi186 : FnI := mkFn Tryz.f186 h186
def h187 : Hint := ⟨3, ⟨[], [], [], [], [], []⟩, [], [], [], []⟩
noncomputable def fi187 : FnI := mkFn Tryz.f187 h187
def h188 : Hint := ⟨1, ⟨[], [], [], [], [], []⟩, [], [], [], [(3, [1, 4]), (4, [1, 4, 5]), (5, [1, 4, 5, 6])]⟩
noncomputable def fi188 : FnI := mkFn Tryz.f188 h188
def h200 : Hint := ⟨2, ⟨[], [], [], [], [], []⟩, [], [], [], []⟩
noncomputable def fi200 : FnI := mkFn Tryz.f200 h200
def h201 : Hint := ⟨1, ⟨[], [], [], [], [], []⟩, [], [], [], []⟩
noncomputable def fi201 : FnI := mkFn Tryz.f201 h201
def h202 : Hint := ⟨0, ⟨[], [], [], [], [], []⟩, [], [], [], []⟩
noncomputable def fi202 : FnI := mkFn Tryz.f202 h202
def h204 : Hint := ⟨0, ⟨[], [], [], [], [], []⟩, [], [], [], []⟩
noncomputable def fi204 : FnI := mkFn Tryz.f204 h204
def h209 : Hint := ⟨1, ⟨[], [], [], [], [], []⟩, [(3, [3, 9, 10, 11])], [(3, [3])], [], []⟩
noncomputable def fi209 : FnI := mkFn Tryz.f209 h209
def h210 : Hint := ⟨3, ⟨[8, 49], [], [], [], [], []⟩, [(11, [1, 2, 3, 6, 8, 37, 38, 39])], [(11, [3, 6, 8])], [(15, [16])], [(8, [2, 6, 7])]⟩
noncomputable def fi210 : FnI := mkFn Tryz.f210 h210
def h215 : Hint := ⟨1, ⟨[], [], [], [], [], []⟩, [], [], [], []⟩
noncomputable def fi215 : FnI := mkFn Tryz.f215 h215
def h217 : Hint := ⟨1, ⟨[], [], [], [], [], []⟩, [], [], [], []⟩
noncomputable def fi217 : FnI := mkFn Tryz.f217 h217
def h218 : Hint := ⟨1, ⟨[], [], [], [], [], []⟩, [], [], [], []⟩
noncomputable def fi218 : FnI := mkFn Tryz.f218 h218
def h221 : Hint := ⟨1, ⟨[], [], [], [], [], []⟩, [], [], [], []⟩
noncomputable def fi221 : FnI := mkFn Tryz.f221 h221
def h222 : Hint := ⟨2, ⟨[], [], [], [], [], []⟩, [(3, [1, 2, 5, 6])], [(3, [5])], [], [(5, [1, 2, 5, 6])]⟩
noncomputable def fi222 : FnI := mkFn Tryz.f222 h222
def h223 : Hint := ⟨1, ⟨[], [], [], [], [], []⟩, [], [], [], []⟩
noncomputable def fi223 : FnI := mkFn Tryz.f223 h223
def h246 : Hint := ⟨2, ⟨[], [], [], [], [], []⟩, [], [], [], []⟩
noncomputable def fi246 : FnI := mkFn Tryz.f246 h246
def h248 : Hint := ⟨1, ⟨[], [], [], [], [], []⟩, [], [], [], []⟩
noncomputable def fi248 : FnI := mkFn Tryz.f248 h248
def h254 : Hint := ⟨1, ⟨[], [], [], [], [], []⟩, [], [], [], []⟩
noncomputable def fi254 : FnI := mkFn Tryz.f254 h254
def h255 : Hint := ⟨2, ⟨[], [], [], [], [], []⟩, [], [], [], []⟩
noncomputable def fi255 : FnI := mkFn Tryz.f255 h255
def h256 : Hint := ⟨2, ⟨[], [], [], [], [], []⟩, [], [], [], []⟩
noncomputable def fi256 : FnI := mkFn Tryz.f256 h256
def h257 : Hint := ⟨2, ⟨[], [], [], [], [], []⟩, [], [], [], []⟩
noncomputable def fi257 : FnI := mkFn Tryz.f257 h257
def h258 : Hint := ⟨2, ⟨[], [], [], [], [], []⟩, [], [], [], []⟩
noncomputable def fi258 : FnI := mkFn Tryz.f258 h258
def h259 : Hint := ⟨2, ⟨[], [], [], [], [], []⟩, [], [], [], []⟩
noncomputable def fi259 : FnI := mkFn Tryz.f259 h259
def h260 : Hint := ⟨1, ⟨[], [], [], [], [], []⟩, [], [], [], []⟩
noncomputable def fi260 : FnI := mkFn Tryz.f260 h260
def h261 : Hint := ⟨1, ⟨[], [], [], [], [], []⟩, [], [], [], []⟩
noncomputable def fi261 : FnI := mkFn Tryz.f261 h261
def h262 : Hint := ⟨1, ⟨[], [], [], [], [], []⟩, [], [], [], []⟩
noncomputable def fi262 : FnI := mkFn Tryz.f262 h262
def h263 : Hint := ⟨1, ⟨[], [], [], [], [], []⟩, [], [], [], []⟩
noncomputable def fi263 : FnI := mkFn Tryz.f263 h263
def h264 : Hint := ⟨1, ⟨[], [], [], [], [], []⟩, [], [], [], []⟩
noncomputable def fi264 : FnI := mkFn Tryz.f264 h264
def h265 : Hint := ⟨1, ⟨[], [], [], [], [], []⟩, [], [], [], []⟩
noncomputable def fi265 : FnI := mkFn Tryz.f265 h265
def h290 : Hint := ⟨2, ⟨[], [], [], [], [], []⟩, [], [], [], []⟩
noncomputable def fi290 : FnI := mkFn Tryz.f290 h290
def h291 : Hint := ⟨3, ⟨[], [], [], [], [], []⟩, [], [], [], []⟩
noncomputable def fi291 : FnI := mkFn Tryz.f291 h291
def h292 : Hint := ⟨2, ⟨[], [], [], [], [], []⟩, [], [], [], []⟩
noncomputable def fi292 : FnI := mkFn Tryz.f292 h292
def h293 : Hint := ⟨2, ⟨[], [], [], [], [], []⟩, [], [], [], []⟩
noncomputable def fi293 : FnI := mkFn Tryz.f293 h293
def h294 : Hint := ⟨2, ⟨[], [], [], [], [], []⟩, [], [], [], [(5, [0, 1, 6, 7, 8])]⟩
noncomputable def fi294 : FnI := mkFn Tryz.f294 h294
def h295 : Hint := ⟨2, ⟨[], [], [], [], [], []⟩, [], [], [], []⟩
noncomputable def fi295 : FnI := mkFn Tryz.f295 h295
def h296 : Hint := ⟨1, ⟨[], [], [], [], [], []⟩, [], [], [], []⟩
noncomputable def fi296 : FnI := mkFn Tryz.f296 h296
def h297 : Hint := ⟨2, ⟨[], [], [], [], [], []⟩, [], [], [], [(3, [0, 1])]⟩
noncomputable def fi297 : FnI := mkFn Tryz.f297 h297
def h298 : Hint := ⟨4, ⟨[], [], [], [], [], []⟩, [], [], [], []⟩
noncomputable def fi298 : FnI := mkFn Tryz.f298 h298
def h299 : Hint := ⟨1, ⟨[], [], [], [], [], []⟩, [], [], [], []⟩
noncomputable def fi299 : FnI := mkFn Tryz.f299 h299
noncomputable def tab : List (Nat × FnI) := [(8, fi8), (16, fi16), (17, fi17), (18, fi18), (19, fi19), (20, fi20), (21, fi21), (22, fi22), (23, fi23), (25, fi25), (27, fi27), (28, fi28), (29, fi29), (32, fi32), (35, fi35), (36, fi36), (39, fi39), (40, fi40), (41, fi41), (42, fi42), (46, fi46), (50, fi50), (52, fi52), (53, fi53), (54, fi54), (55, fi55), (56, fi56), (57, fi57), (58, fi58), (59, fi59), (60, fi60), (61, fi61), (62, fi62), (63, fi63), (64, fi64), (65, fi65), (66, fi66), (67, fi67), (68, fi68), (69, fi69), (70, fi70), (71, fi71), (72, fi72), (73, fi73), (74, fi74), (77, fi77), (78, fi78), (79, fi79), (80, fi80), (81, fi81), (82, fi82), (83, fi83), (87, fi87), (93, fi93), (96, fi96), (97, fi97), (98, fi98), (99, fi99), (100, fi100), (101, fi101), (102, fi102), (103, fi103), (104, fi104), (105, fi105), (106, fi106), (113, fi113), (114, fi114), (115, fi115), (124, fi124), (125, fi125), (126, fi126), (128, fi128), (129, fi129), (130, fi130), (131, fi131), (132, fi132), (133, fi133), (134, fi134), (135, fi135), (136, fi136), (137, fi137), (138, fi138), (139, fi139), (140, fi140), (141, fi141), (145, fi145), (154, fi154), (155, fi155), (156, fi156), (157, fi157), (164, fi164), (165, fi165), (166, fi166), (167, fi167), (168, fi168), (169, fi169), (174, fi174), (175, fi175), (179, fi179), (182, fi182), (183, fi183), (184, fi184), (185, fi185), (186, fi186), (187, fi187), (188, fi188), (200, fi200), (201, fi201), (202, fi202), (204, fi204), (209, fi209), (210, fi210), (215, fi215), (217, fi217), (218, fi218), (221, fi221), (222, fi222), (223, fi223), (246, fi246), (248, fi248), (254, fi254), (255, fi255), (256, fi256), (257, fi257), (258, fi258), (259, fi259), (260, fi260), (261, fi261), (262, fi262), (263, fi263), (264, fi264), (265, fi265), (290, fi290), (291, fi291), (292, fi292), (293, fi293), (294, fi294), (295, fi295), (296, fi296), (297, fi297), (298, fi298), (299, fi299)]
noncomputable def etab : List (Nat × ExtF) := [(96, cloneExt 0), (166, cloneExt 3), (53, textExt), (61, (toldExt [62, 81])), (139, sortExt), (140, compactExt), (155, (sortKExt 57)), (295, mul64Ext), (203, add64Ext)]
noncomputable def cfg : Cfg := ⟨ty, lookF tab, lookE etab⟩
instance gl0 : Gl := Gl.triv
theorem clone96 : CloneB cfg fi96 0 := fun call xs => ⟨by kernel_rfl, by kernel_rfl, by kernel_rfl, by kernel_rfl⟩
theorem clone166 : CloneB cfg fi166 3 := fun call xs => ⟨by kernel_rfl, by kernel_rfl, by kernel_rfl, by kernel_rfl⟩
theorem tys : tysB Tryz.prog cfg = true := by kernel_rfl
theorem fns : AllF Tryz.prog cfg tab := ⟨fnB_ok Tryz.func8 (by kernel_rfl), fnSB_ok (r := 4) Tryz.func16 rfl (by kernel_rfl), fnB_ok Tryz.func17 (by kernel_rfl), fnB_ok Tryz.func18 (by kernel_rfl), fnB_ok Tryz.func19 (by kernel_rfl), fnB_ok Tryz.func20 (by kernel_rfl), fnB_ok Tryz.func21 (by kernel_rfl), fnB_ok Tryz.func22 (by kernel_rfl), fnB_ok Tryz.func23 (by kernel_rfl), fnB_ok Tryz.func25 (by kernel_rfl), fnB_ok Tryz.func27 (by kernel_rfl), fnB_ok Tryz.func28 (by kernel_rfl), fnB_ok Tryz.func29 (by kernel_rfl), fnB_ok Tryz.func32 (by kernel_rfl), fnB_ok Tryz.func35 (by kernel_rfl), fnB_ok Tryz.func36 (by kernel_rfl), fnB_ok Tryz.func39 (by kernel_rfl), fnB_ok Tryz.func40 (by kernel_rfl), fnB_ok Tryz.func41 (by kernel_rfl), fnB_ok Tryz.func42 (by kernel_rfl), fnB_ok Tryz.func46 (by kernel_rfl), fnB_ok Tryz.func50 (by kernel_rfl), fnB_ok Tryz.func52 (by kernel_rfl), fnB_ok Tryz.func53 (by kernel_rfl), fnB_ok Tryz.func54 (by kernel_rfl), fnB_ok Tryz.func55 (by kernel_rfl), fnB_ok Tryz.func56 (by kernel_rfl), fnB_ok Tryz.func57 (by kernel_rfl), fnB_ok Tryz.func58 (by kernel_rfl), fnB_ok Tryz.func59 (by kernel_rfl), fnB_ok Tryz.func60 (by kernel_rfl), fnB_ok Tryz.func61 (by kernel_rfl), fnB_ok Tryz.func62 (by kernel_rfl), fnB_ok Tryz.func63 (by kernel_rfl), fnB_ok Tryz.func64 (by kernel_rfl), fnB_ok Tryz.func65 (by kernel_rfl), fnB_ok Tryz.func66 (by kernel_rfl), fnB_ok Tryz.func67 (by kernel_rfl), fnB_ok Tryz.func68 (by kernel_rfl), fnB_ok Tryz.func69 (by kernel_rfl), fnB_ok Tryz.func70 (by kernel_rfl), fnB_ok Tryz.func71 (by kernel_rfl), fnB_ok Tryz.func72 (by kernel_rfl), fnB_ok Tryz.func73 (by kernel_rfl), fnB_ok Tryz.func74 (by kernel_rfl), fnB_ok Tryz.func77 (by kernel_rfl), fnB_ok Tryz.func78 (by kernel_rfl), fnB_ok Tryz.func79 (by kernel_rfl), fnB_ok Tryz.func80 (by kernel_rfl), fnB_ok Tryz.func81 (by kernel_rfl), fnB_ok Tryz.func82 (by kernel_rfl), fnB_ok Tryz.func83 (by kernel_rfl), fnB_ok Tryz.func87 (by kernel_rfl), fnB_ok Tryz.func93 (by kernel_rfl), fnB_ok Tryz.func96 (by kernel_rfl), fnB_ok Tryz.func97 (by kernel_rfl), fnB_ok Tryz.func98 (by kernel_rfl), fnB_ok Tryz.func99 (by kernel_rfl), fnB_ok Tryz.func100 (by kernel_rfl), fnB_ok Tryz.func101 (by kernel_rfl), fnB_ok Tryz.func102 (by kernel_rfl), fnB_ok Tryz.func103 (by kernel_rfl), fnB_ok Tryz.func104 (by kernel_rfl), fnB_ok Tryz.func105 (by kernel_rfl), fnB_ok Tryz.func106 (by kernel_rfl), fnB_ok Tryz.func113 (by kernel_rfl), fnB_ok Tryz.func114 (by kernel_rfl), fnB_ok Tryz.func115 (by kernel_rfl), fnB_ok Tryz.func124 (by kernel_rfl), fnB_ok Tryz.func125 (by kernel_rfl), fnB_ok Tryz.func126 (by kernel_rfl), fnB_ok Tryz.func128 (by kernel_rfl), fnB_ok Tryz.func129 (by kernel_rfl), fnB_ok Tryz.func130 (by kernel_rfl), fnB_ok Tryz.func131 (by kernel_rfl), fnB_ok Tryz.func132 (by kernel_rfl), fnB_ok Tryz.func133 (by kernel_rfl), fnB_ok Tryz.func134 (by kernel_rfl), fnB_ok Tryz.func135 (by kernel_rfl), fnB_ok Tryz.func136 (by kernel_rfl), fnB_ok Tryz.func137 (by kernel_rfl), fnB_ok Tryz.func138 (by kernel_rfl), fnB_ok Tryz.func139 (by kernel_rfl), fnB_ok Tryz.func140 (by kernel_rfl), fnB_ok Tryz.func141 (by kernel_rfl), fnB_ok Tryz.func145 (by kernel_rfl), fnB_ok Tryz.func154 (by kernel_rfl), fnB_ok Tryz.func155 (by kernel_rfl), fnB_ok Tryz.func156 (by kernel_rfl), fnB_ok Tryz.func157 (by kernel_rfl), fnB_ok Tryz.func164 (by kernel_rfl), fnB_ok Tryz.func165 (by kernel_rfl), fnB_ok Tryz.func166 (by kernel_rfl), fnB_ok Tryz.func167 (by kernel_rfl), fnB_ok Tryz.func168 (by kernel_rfl), fnB_ok Tryz.func169 (by kernel_rfl), fnB_ok Tryz.func174 (by kernel_rfl), fnB_ok Tryz.func175 (by kernel_rfl), fnB_ok Tryz.func179 (by kernel_rfl), fnB_ok Tryz.func182 (by kernel_rfl), fnB_ok Tryz.func183 (by kernel_rfl), fnB_ok Tryz.func184 (by kernel_rfl), fnB_ok Tryz.func185 (by kernel_rfl), fnB_ok Tryz.func186 (by kernel_rfl), fnB_ok Tryz.func187 (by kernel_rfl), fnB_ok Tryz.func188 (by kernel_rfl), fnB_ok Tryz.func200 (by kernel_rfl), fnB_ok Tryz.func201 (by kernel_rfl), fnB_ok Tryz.func202 (by kernel_rfl), fnB_ok Tryz.func204 (by kernel_rfl), fnB_ok Tryz.func209 (by kernel_rfl), fnB_ok Tryz.func210 (by kernel_rfl), fnB_ok Tryz.func215 (by kernel_rfl), fnB_ok Tryz.func217 (by kernel_rfl), fnB_ok Tryz.func218 (by kernel_rfl), fnB_ok Tryz.func221 (by kernel_rfl), fnB_ok Tryz.func222 (by kernel_rfl), fnB_ok Tryz.func223 (by kernel_rfl), fnB_ok Tryz.func246 (by kernel_rfl), fnB_ok Tryz.func248 (by kernel_rfl), fnB_ok Tryz.func254 (by kernel_rfl), fnB_ok Tryz.func255 (by kernel_rfl), fnB_ok Tryz.func256 (by kernel_rfl), fnB_ok Tryz.func257 (by kernel_rfl), fnB_ok Tryz.func258 (by kernel_rfl), fnB_ok Tryz.func259 (by kernel_rfl), fnB_ok Tryz.func260 (by kernel_rfl), fnB_ok Tryz.func261 (by kernel_rfl), fnB_ok Tryz.func262 (by kernel_rfl), fnB_ok Tryz.func263 (by kernel_rfl), fnB_ok Tryz.func264 (by kernel_rfl), fnB_ok Tryz.func265 (by kernel_rfl), fnB_ok Tryz.func290 (by kernel_rfl), fnB_ok Tryz.func291 (by kernel_rfl), fnB_ok Tryz.func292 (by kernel_rfl), fnB_ok Tryz.func293 (by kernel_rfl), fnB_ok Tryz.func294 (by kernel_rfl), fnB_ok Tryz.func295 (by kernel_rfl), fnB_ok Tryz.func296 (by kernel_rfl), fnB_ok Tryz.func297 (by kernel_rfl), fnB_ok Tryz.func298 (by kernel_rfl), fnB_ok Tryz.func299 (by kernel_rfl), trivial⟩
theorem exts [GL : Gl] (hG : ∃ g t fr, Tryz.prog.globalNamed "internal/strconv.uint64pow10" = some g ∧ GL.tab g (.cells (Lib.pow10Tab.map fun z => Value.int .u64 z).toArray t fr)) : ∀ f g, cfg.ext f = some g → ExtOK Tryz.prog f g := allE_look (tab := etab) ⟨clone_ok (tysB_ok tys) (fnB_ok Tryz.func96 (by kernel_rfl)) clone96, clone_ok (tysB_ok tys) (fnB_ok Tryz.func166 (by kernel_rfl)) clone166, text_ok ⟨⟨Tryz.f53, Tryz.func53, by kernel_rfl, by kernel_rfl⟩, fun b c xs w h1 h2 h3 h4 h5 => Tryz.text b c xs w h1 h2 h3 h4 h5⟩ hG, told_ok Tryz.toldC, sort_ok ⟨⟨Tryz.f139, Tryz.func139, by kernel_rfl, by kernel_rfl⟩, fun b o c z w h1 h2 h3 => Tryz.slices_Sort_int b o c z w h1 h2 h3, fun p c w => Tryz.slices_Sort_int_none p c w⟩, compact_ok ⟨⟨Tryz.f140, Tryz.func140, by kernel_rfl, by kernel_rfl⟩, fun b o c z w h1 h2 h3 => Tryz.slices_Compact_int b o c z w h1 h2 h3, fun p c w => Tryz.slices_Compact_int_empty p c w⟩, sortK_ok Tryz.keySort, mul64_ok ⟨⟨Tryz.f295, Tryz.func295, by kernel_rfl, by kernel_rfl⟩, fun x y h1 h2 w => Tryz.bits_Mul64 x y h1 h2 w⟩, add64_ok (fun x y c h1 h2 h3 h4 w => by rw [run_callFunc_extern Tryz.func203 (by kernel_rfl) (by kernel_rfl) (by kernel_rfl) (e := Go.add64Entry) (by kernel_rfl), Go.run_add64 x y c h1 h2 h3 h4 w]; rfl), trivial⟩
theorem cfg_ext96 : cfg.ext 96 = some (cloneExt 0) := by kernel_rfl
theorem cfg_ext166 : cfg.ext 166 = some (cloneExt 3) := by kernel_rfl
theorem cfg_ext61 : cfg.ext 61 = some (toldExt [62, 81]) := by kernel_rfl
theorem cfg_ext139 : cfg.ext 139 = some sortExt := by kernel_rfl
theorem cfg_ext140 : cfg.ext 140 = some compactExt := by kernel_rfl
theorem cfg_ext295 : cfg.ext 295 = some mul64Ext := by kernel_rfl
end Go.Cf

namespace Go.Cf
open Go Go.Ab
set_option linter.unusedVariables false
set_option maxRecDepth 100000
def n_roadbooklaw07_MeansCols : Nat := 8
def n_roadbooklaw07_awake : Nat := 18
def n_roadbooklaw07_few : Nat := 19
def n_roadbooklaw07_Light : Nat := 20
def n_query_May : Nat := 22
def n_roadbookref03_Row : Nat := 23
def n_means_Rows : Nat := 25
def n_query_Cols : Nat := 27
def n_tree_Set : Nat := 28
def n_roadbookref06_Size : Nat := 29
def n_roadbookref03_Like : Nat := 35
def n_bag_Pick : Nat := 39
def n_query_Own : Nat := 40
def n_bag_May : Nat := 41
def n_bag_Keep : Nat := 42
def n_data_Fits : Nat := 50
def n_slices_Index_int_int : Nat := 54
def n_roadbooklaw05_Far : Nat := 59
def n_roadbooklaw04_Far : Nat := 60
def n_means_told : Nat := 61
def n_means_All_1 : Nat := 62
def n_means_must : Nat := 63
def n_data_Of : Nat := 64
def n_bag_Cross : Nat := 65
def n_query_May_1 : Nat := 66
def n_data_May : Nat := 67
def n_slices_ContainsFunc_int_int : Nat := 68
def n_query_all : Nat := 69
def n_query_May_2 : Nat := 70
def n_expr_Cols : Nat := 71
def n_query_within : Nat := 72
def n_query_once : Nat := 73
def n_slices_Contains_int_int : Nat := 74
def n_tree_May : Nat := 77
def n_means_Rows_1 : Nat := 78
def n_means_of : Nat := 79
def n_query_New : Nat := 80
def n_means_Rows_2 : Nat := 81
def n_query_set_has : Nat := 82
def n_tree_set : Nat := 83
def n_roadbookref02_Ints : Nat := 93
def n_slices_Clone_int_int : Nat := 96
def n_query_some : Nat := 97
def n_query_set_holds : Nat := 98
def n_bag_May_1 : Nat := 99
def n_val_May : Nat := 100
def n_slices_ContainsFunc_api_Val_api_Val_c5fc : Nat := 101
def n_bag_some : Nat := 102
def n_bag_Keep_1 : Nat := 103
def n_slices_ContainsFunc_api_Expr_api_Expr : Nat := 104
def n_bag_Keep_1_1 : Nat := 105
def n_expr_Keeps : Nat := 106
def n_data_Fits_1 : Nat := 113
def n_data_row : Nat := 114
def n_slices_ContainsFunc_api_Val_api_Val_3020 : Nat := 115
def n_roadbooklaw05_few : Nat := 125
def n_roadbooklaw04_few : Nat := 126
def n_data_in : Nat := 128
def n_data_Col : Nat := 129
def n_slices_Concat_int_int : Nat := 130
def n_slices_Concat_api_Val_api_Val : Nat := 131
def n_slices_ContainsFunc_api_Def_api_Def : Nat := 132
def n_data_May_1 : Nat := 133
def n_data_one : Nat := 134
def n_slices_IndexFunc_int_int : Nat := 135
def n_expr_May : Nat := 136
def n_expr_each : Nat := 137
def n_expr_Cols_1 : Nat := 138
def n_slices_Sort_int_int : Nat := 139
def n_slices_Compact_int_int : Nat := 140
def n_query_within_1 : Nat := 141
def n_query_New_1 : Nat := 145
def n_val_Of : Nat := 156
def n_query_Of : Nat := 164
def n_slices_IndexFunc_api_Val_api_Val_b1f6 : Nat := 165
def n_slices_Clone_api_Val_api_Val : Nat := 166
def n_slices_IndexFunc_api_Expr_api_Expr : Nat := 167
def n_val_True : Nat := 168
def n_expr_Eval : Nat := 169
def n_data_row_1 : Nat := 174
def n_slices_IndexFunc_api_Val_api_Val_fa1b : Nat := 175
def n_val_Eq : Nat := 179
def n_roadbookref02_Few : Nat := 183
def n_slices_Grow_int_int : Nat := 184
def n_slices_Grow_api_Val_api_Val : Nat := 185
def n_slices_IndexFunc_api_Def_api_Def : Nat := 186
def n_expr_May_1 : Nat := 187
def n_expr_part : Nat := 188
def n_val_some_api_Val : Nat := 200
def n_val_kind : Nat := 201
def n_val_bad : Nat := 202
def n_val_null : Nat := 204
def n_query_of : Nat := 209
def n_expr_eval : Nat := 210
def n_val_fine : Nat := 215
def n_val_odd : Nat := 217
def n_val_of : Nat := 218
def n_roadbookref02_size : Nat := 222
def n_expr_ways : Nat := 223
def n_val_kind_1 : Nat := 246
def n_data_Split : Nat := 248
def n_expr_two : Nat := 254
def n_val_Add : Nat := 255
def n_val_Sub : Nat := 256
def n_val_Mul : Nat := 257
def n_val_Div : Nat := 258
def n_val_Lt : Nat := 259
def n_expr_ways_1 : Nat := 260
def n_val_And : Nat := 261
def n_expr_ways_2 : Nat := 262
def n_val_Or : Nat := 263
def n_expr_ways_3 : Nat := 264
def n_val_Not : Nat := 265
def n_expr_two_1 : Nat := 290
def n_val_reckon : Nat := 291
def n_val_Add_1 : Nat := 292
def n_val_Sub_1 : Nat := 293
def n_val_Mul_1 : Nat := 294
def n_bits_Mul64 : Nat := 295
def n_val_size : Nat := 296
def n_val_Div_1 : Nat := 297
def n_val_three : Nat := 298
def n_val_isFalse : Nat := 299
def t_int : Nat := 3
def t_s_api_Def : Nat := 22
def t_api_Cat : Nat := 24
def t_s_s_s_api_Val : Nat := 25
def t_api_Data : Nat := 27
def t_s_int : Nat := 28
def t_s_api_Expr : Nat := 29
def t_api_Query : Nat := 31
def t_s_s_api_Val : Nat := 38
def t_api_Val : Nat := 46
def t_api_Expr : Nat := 48
def t_s_api_Val : Nat := 54
def t_s_api_Tree : Nat := 56
def t_api_Tree : Nat := 58
def t_api_Def : Nat := 141
theorem exW : ∃ W : Wf, W = evw cfg := ⟨_, rfl⟩
noncomputable def W : Wf := Classical.choose exW
theorem W_eq : W = evw cfg := Classical.choose_spec exW
theorem exT (fi : FnI) {R : Type} (fin : Ex → St → Option R) : ∃ jl : Jn R × Ln R, Tied cfg W fi fin jl.1 jl.2 := ⟨(_, _), tied cfg W fi fin⟩
theorem wq {f : FuncId} {fi : FnI} (he : cfg.ext f = none) (hf : cfg.fn f = some fi) (args : List PV) : wc W f args = body cfg W lpw fi args := by rw [W_eq]; exact evw_eq he hf args
theorem wqO {f : FuncId} {fi : FnI} (he : cfg.ext f = none) (hf : cfg.fn f = some fi) (raw : Bool) (args : List AV) (ow : List Ob) : W f raw args ow = bodyO cfg W lpw fi raw args ow := by rw [W_eq]; exact evw_eqO he hf raw args ow
theorem go {f : FuncId} {fi : FnI} {args : List PV} {r : Option PV} {jn : Jn PV} {ln : Ln PV} (he : cfg.ext f = none) (hf : cfg.fn f = some fi) (h : Tied cfg W fi (fin cfg fi) jn ln) (e : (bif args.length == fi.np then Gf cfg W fi jn ln fi.code [] ⟨args0 0 args, []⟩ (fin cfg fi) else none) = r) : wc W f args = r := (wq he hf args).trans ((h.body args).trans e)
theorem goO {f : FuncId} {fi : FnI} {raw : Bool} {n : Nat} {args : List AV} {ow : List Ob} {r : Option (AV × List Ob)} {jn : Jn (AV × List Ob)} {ln : Ln (AV × List Ob)} (he : cfg.ext f = none) (hf : cfg.fn f = some fi) (h : Tied cfg W fi (finO cfg fi raw n) jn ln) (hn : ow.length = n) (e : (bif args.length == fi.np then Gf cfg W fi jn ln fi.code [] ⟨args0A 0 args, ow⟩ (finO cfg fi raw n) else none) = r) : W f raw args ow = r := (wqO he hf raw args ow).trans ((h.bodyO args ow hn).trans e)
def c_b {R : Type} (p : PV) (K : Bool → Option R) : Option R := (PV.asBool p).bind fun zzx0 => K zzx0
@[simp] theorem c_b_mk (zzx0 : Bool) {R : Type} (K : Bool → Option R) : c_b (PV.bool zzx0) K = K zzx0 := rfl
def c_g_i64_i64 {R : Type} (p : PV) (K : Int → Int → Option R) : Option R := (PV.asAgg p).bind fun c0 => (c0[0]?).bind fun p1 => (PV.asIntK .i64 p1).bind fun zzx2 => (c0[1]?).bind fun p3 => (PV.asIntK .i64 p3).bind fun zzx4 => bif c0.length == 2 then (K zzx2 zzx4) else none
@[simp] theorem c_g_i64_i64_mk (zzx2 : Int) (zzx4 : Int) {R : Type} (K : Int → Int → Option R) : c_g_i64_i64 (PV.agg [(PV.int .i64 zzx2), (PV.int .i64 zzx4)]) K = K zzx2 zzx4 := rfl
def c_g_i64_i64_i64_i64_s6 {R : Type} (p : PV) (K : Int → Int → Int → Int → List PV → Option R) : Option R := (PV.asAgg p).bind fun c0 => (c0[0]?).bind fun p1 => (PV.asIntK .i64 p1).bind fun zzx2 => (c0[1]?).bind fun p3 => (PV.asIntK .i64 p3).bind fun zzx4 => (c0[2]?).bind fun p5 => (PV.asIntK .i64 p5).bind fun zzx6 => (c0[3]?).bind fun p7 => (PV.asIntK .i64 p7).bind fun zzx8 => (c0[4]?).bind fun p9 => (PV.asSlice 6 p9).bind fun zzx10 => bif c0.length == 5 then (K zzx2 zzx4 zzx6 zzx8 zzx10) else none
@[simp] theorem c_g_i64_i64_i64_i64_s6_mk (zzx2 : Int) (zzx4 : Int) (zzx6 : Int) (zzx8 : Int) (zzx10 : List PV) {R : Type} (K : Int → Int → Int → Int → List PV → Option R) : c_g_i64_i64_i64_i64_s6 (PV.agg [(PV.int .i64 zzx2), (PV.int .i64 zzx4), (PV.int .i64 zzx6), (PV.int .i64 zzx8), (PV.slice 6 zzx10)]) K = K zzx2 zzx4 zzx6 zzx8 zzx10 := rfl
def c_g_i64_i64_p {R : Type} (p : PV) (K : Int → Int → PV → Option R) : Option R := (PV.asAgg p).bind fun c0 => (c0[0]?).bind fun p1 => (PV.asIntK .i64 p1).bind fun zzx2 => (c0[1]?).bind fun p3 => (PV.asIntK .i64 p3).bind fun zzx4 => (c0[2]?).bind fun p5 => (some p5).bind fun zzx6 => bif c0.length == 3 then (K zzx2 zzx4 zzx6) else none
@[simp] theorem c_g_i64_i64_p_mk (zzx2 : Int) (zzx4 : Int) (zzx6 : PV) {R : Type} (K : Int → Int → PV → Option R) : c_g_i64_i64_p (PV.agg [(PV.int .i64 zzx2), (PV.int .i64 zzx4), zzx6]) K = K zzx2 zzx4 zzx6 := rfl
def c_g_i64_s3 {R : Type} (p : PV) (K : Int → List PV → Option R) : Option R := (PV.asAgg p).bind fun c0 => (c0[0]?).bind fun p1 => (PV.asIntK .i64 p1).bind fun zzx2 => (c0[1]?).bind fun p3 => (PV.asSlice 3 p3).bind fun zzx4 => bif c0.length == 2 then (K zzx2 zzx4) else none
@[simp] theorem c_g_i64_s3_mk (zzx2 : Int) (zzx4 : List PV) {R : Type} (K : Int → List PV → Option R) : c_g_i64_s3 (PV.agg [(PV.int .i64 zzx2), (PV.slice 3 zzx4)]) K = K zzx2 zzx4 := rfl
def c_g_s0 {R : Type} (p : PV) (K : List PV → Option R) : Option R := (PV.asAgg p).bind fun c0 => (c0[0]?).bind fun p1 => (PV.asSlice 0 p1).bind fun zzx2 => bif c0.length == 1 then (K zzx2) else none
@[simp] theorem c_g_s0_mk (zzx2 : List PV) {R : Type} (K : List PV → Option R) : c_g_s0 (PV.agg [(PV.slice 0 zzx2)]) K = K zzx2 := rfl
def c_g_s0_s0 {R : Type} (p : PV) (K : List PV → List PV → Option R) : Option R := (PV.asAgg p).bind fun c0 => (c0[0]?).bind fun p1 => (PV.asSlice 0 p1).bind fun zzx2 => (c0[1]?).bind fun p3 => (PV.asSlice 0 p3).bind fun zzx4 => bif c0.length == 2 then (K zzx2 zzx4) else none
@[simp] theorem c_g_s0_s0_mk (zzx2 : List PV) (zzx4 : List PV) {R : Type} (K : List PV → List PV → Option R) : c_g_s0_s0 (PV.agg [(PV.slice 0 zzx2), (PV.slice 0 zzx4)]) K = K zzx2 zzx4 := rfl
def c_g_s3 {R : Type} (p : PV) (K : List PV → Option R) : Option R := (PV.asAgg p).bind fun c0 => (c0[0]?).bind fun p1 => (PV.asSlice 3 p1).bind fun zzx2 => bif c0.length == 1 then (K zzx2) else none
@[simp] theorem c_g_s3_mk (zzx2 : List PV) {R : Type} (K : List PV → Option R) : c_g_s3 (PV.agg [(PV.slice 3 zzx2)]) K = K zzx2 := rfl
def c_i64 {R : Type} (p : PV) (K : Int → Option R) : Option R := (PV.asIntK .i64 p).bind fun zzx0 => K zzx0
@[simp] theorem c_i64_mk (zzx0 : Int) {R : Type} (K : Int → Option R) : c_i64 (PV.int .i64 zzx0) K = K zzx0 := rfl
def c_s0 {R : Type} (p : PV) (K : List PV → Option R) : Option R := (PV.asSlice 0 p).bind fun zzx0 => K zzx0
@[simp] theorem c_s0_mk (zzx0 : List PV) {R : Type} (K : List PV → Option R) : c_s0 (PV.slice 0 zzx0) K = K zzx0 := rfl
def c_s3 {R : Type} (p : PV) (K : List PV → Option R) : Option R := (PV.asSlice 3 p).bind fun zzx0 => K zzx0
@[simp] theorem c_s3_mk (zzx0 : List PV) {R : Type} (K : List PV → Option R) : c_s3 (PV.slice 3 zzx0) K = K zzx0 := rfl
def c_s6 {R : Type} (p : PV) (K : List PV → Option R) : Option R := (PV.asSlice 6 p).bind fun zzx0 => K zzx0
@[simp] theorem c_s6_mk (zzx0 : List PV) {R : Type} (K : List PV → Option R) : c_s6 (PV.slice 6 zzx0) K = K zzx0 := rfl
def c_u64 {R : Type} (p : PV) (K : Int → Option R) : Option R := (PV.asIntK .u64 p).bind fun zzx0 => K zzx0
@[simp] theorem c_u64_mk (zzx0 : Int) {R : Type} (K : Int → Option R) : c_u64 (PV.int IntKind.u64 zzx0) K = K zzx0 := rfl
def k_10961c {R : Type} (z : AV × List Ob) (K : PV → Int → Int → Int → Option R) : Option R := (AV.asPv z.1).bind fun q0 => (some q0).bind fun zzx1 => (z.2[0]?).bind fun p2 => (Ob.asVar false 0 p2).bind fun a3 => (AV.asPv a3).bind fun q4 => (PV.asIntK .i64 q4).bind fun zzx5 => (z.2[1]?).bind fun p6 => (Ob.asVar false 0 p6).bind fun a7 => (AV.asPv a7).bind fun q8 => (PV.asIntK .i64 q8).bind fun zzx9 => (z.2[2]?).bind fun p10 => (Ob.asVar false 0 p10).bind fun a11 => (AV.asPv a11).bind fun q12 => (PV.asIntK .i64 q12).bind fun zzx13 => bif z.2.length == 3 then (K zzx1 zzx5 zzx9 zzx13) else none
@[simp] theorem k_10961c_mk (zzx1 : PV) (zzx5 : Int) (zzx9 : Int) (zzx13 : Int) {R : Type} (K : PV → Int → Int → Int → Option R) : k_10961c ((AV.pv zzx1), [(Ob.var false 0 (AV.pv (PV.int .i64 zzx5))), (Ob.var false 0 (AV.pv (PV.int .i64 zzx9))), (Ob.var false 0 (AV.pv (PV.int .i64 zzx13)))]) K = K zzx1 zzx5 zzx9 zzx13 := rfl
def k_5b106d {R : Type} (z : AV × List Ob) (K : PV → Int → Option R) : Option R := (AV.asPv z.1).bind fun q0 => (some q0).bind fun zzx1 => (z.2[0]?).bind fun p2 => (Ob.asVar false 0 p2).bind fun a3 => (AV.asPv a3).bind fun q4 => (PV.asIntK .i64 q4).bind fun zzx5 => bif z.2.length == 1 then (K zzx1 zzx5) else none
@[simp] theorem k_5b106d_mk (zzx1 : PV) (zzx5 : Int) {R : Type} (K : PV → Int → Option R) : k_5b106d ((AV.pv zzx1), [(Ob.var false 0 (AV.pv (PV.int .i64 zzx5)))]) K = K zzx1 zzx5 := rfl
def k_83ed81 {R : Type} (z : AV × List Ob) (K : List PV → Option R) : Option R := bif AV.isView 0 z.1 then ((z.2[0]?).bind fun p0 => (Ob.asRow false 0 3 p0).bind fun zzx1 => bif z.2.length == 1 then (K zzx1) else none) else none
@[simp] theorem k_83ed81_mk (zzx1 : List PV) {R : Type} (K : List PV → Option R) : k_83ed81 ((AV.view 0 0 none), [(Ob.row false 0 (3 : Nat) zzx1)]) K = K zzx1 := rfl
def k_abad21 {R : Type} (z : AV × List Ob) (K : PV → List PV → List PV → List PV → List PV → Int → List PV → List PV → Int → Option R) : Option R := (AV.asPv z.1).bind fun q0 => (some q0).bind fun zzx1 => (z.2[0]?).bind fun p2 => (Ob.asVar false 0 p2).bind fun a3 => (AV.asFnv n_means_Rows_1 a3).bind fun y4 => bif y4.1.length == 0 then ((y4.2[0]?).bind fun p5 => (AV.asPv p5).bind fun q6 => (PV.asImm 2 0 q6).bind fun v7 => (PV.asAgg v7).bind fun c8 => (c8[0]?).bind fun p9 => (PV.asSlice 3 p9).bind fun zzx10 => bif c8.length == 1 then ((y4.2[1]?).bind fun p11 => (AV.asPv p11).bind fun q12 => (PV.asImm 2 0 q12).bind fun v13 => (PV.asAgg v13).bind fun c14 => (c14[0]?).bind fun p15 => (PV.asSlice 0 p15).bind fun zzx16 => bif c14.length == 1 then ((y4.2[2]?).bind fun p17 => (AV.asPv p17).bind fun q18 => (PV.asImm 7 0 q18).bind fun v19 => (PV.asAgg v19).bind fun c20 => (c20[0]?).bind fun p21 => (PV.asSlice 0 p21).bind fun zzx22 => (c20[1]?).bind fun p23 => (PV.asSlice 6 p23).bind fun zzx24 => (c20[2]?).bind fun p25 => (PV.asIntK .i64 p25).bind fun zzx26 => (c20[3]?).bind fun p27 => (PV.asSlice 0 p27).bind fun zzx28 => (c20[4]?).bind fun p29 => (PV.asSlice 0 p29).bind fun zzx30 => (c20[5]?).bind fun p31 => (PV.asIntK .i64 p31).bind fun zzx32 => bif c20.length == 6 then ((y4.2[3]?).bind fun p33 => bif AV.isOwn 0 0 p33 then (bif y4.2.length == 4 then (bif z.2.length == 1 then (K zzx1 zzx10 zzx16 zzx22 zzx24 zzx26 zzx28 zzx30 zzx32) else none) else none) else none) else none) else none) else none) else none
@[simp] theorem k_abad21_mk (zzx1 : PV) (zzx10 : List PV) (zzx16 : List PV) (zzx22 : List PV) (zzx24 : List PV) (zzx26 : Int) (zzx28 : List PV) (zzx30 : List PV) (zzx32 : Int) {R : Type} (K : PV → List PV → List PV → List PV → List PV → Int → List PV → List PV → Int → Option R) : k_abad21 ((AV.pv zzx1), [(Ob.var false 0 (AV.fnv n_means_Rows_1 [] [(AV.pv (PV.imm 2 (PV.agg [(PV.slice 3 zzx10)]) 0)), (AV.pv (PV.imm 2 (PV.agg [(PV.slice 0 zzx16)]) 0)), (AV.pv (PV.imm 7 (PV.agg [(PV.slice 0 zzx22), (PV.slice 6 zzx24), (PV.int .i64 zzx26), (PV.slice 0 zzx28), (PV.slice 0 zzx30), (PV.int .i64 zzx32)]) 0)), (AV.own (Prod.fst ((0 : Nat), (0 : Nat))) 0)]))]) K = K zzx1 zzx10 zzx16 zzx22 zzx24 zzx26 zzx28 zzx30 zzx32 := rfl
def k_b2223f {R : Type} (z : AV × List Ob) (K : PV → List PV → Option R) : Option R := (AV.asPv z.1).bind fun q0 => (some q0).bind fun zzx1 => (z.2[0]?).bind fun p2 => (Ob.asVar false 0 p2).bind fun a3 => bif AV.isView 1 a3 then ((z.2[1]?).bind fun p4 => (Ob.asRow false 0 0 p4).bind fun zzx5 => bif z.2.length == 2 then (K zzx1 zzx5) else none) else none
@[simp] theorem k_b2223f_mk (zzx1 : PV) (zzx5 : List PV) {R : Type} (K : PV → List PV → Option R) : k_b2223f ((AV.pv zzx1), [(Ob.var false 0 (AV.view 1 0 none)), (Ob.row false 0 0 zzx5)]) K = K zzx1 zzx5 := rfl
def k_b7636c {R : Type} (z : AV × List Ob) (K : PV → Option R) : Option R := (AV.asPv z.1).bind fun q0 => (some q0).bind fun zzx1 => (z.2[0]?).bind fun p2 => bif Ob.isDead p2 then (bif z.2.length == 1 then (K zzx1) else none) else none
@[simp] theorem k_b7636c_mk (zzx1 : PV) {R : Type} (K : PV → Option R) : k_b7636c ((AV.pv zzx1), [Ob.dead]) K = K zzx1 := rfl
def k_cad770 {R : Type} (z : AV × List Ob) (K : PV → List PV → Option R) : Option R := (AV.asPv z.1).bind fun q0 => (some q0).bind fun zzx1 => (z.2[0]?).bind fun p2 => (Ob.asFix 0 0 p2).bind fun zzx3 => bif z.2.length == 1 then (K zzx1 zzx3) else none
@[simp] theorem k_cad770_mk (zzx1 : PV) (zzx3 : List PV) {R : Type} (K : PV → List PV → Option R) : k_cad770 ((AV.pv zzx1), [(Ob.fix 0 0 zzx3)]) K = K zzx1 zzx3 := rfl
def k_d697de {R : Type} (z : AV × List Ob) (K : List PV → Option R) : Option R := bif AV.isView 0 z.1 then ((z.2[0]?).bind fun p0 => (Ob.asRow false 0 0 p0).bind fun zzx1 => bif z.2.length == 1 then (K zzx1) else none) else none
@[simp] theorem k_d697de_mk (zzx1 : List PV) {R : Type} (K : List PV → Option R) : k_d697de ((AV.view 0 0 none), [(Ob.row false 0 (0 : Nat) zzx1)]) K = K zzx1 := rfl
theorem x_means_told (raw : List AV) (ow : List Ob) : W n_means_told false raw ow = toldG [n_means_All_1, n_means_Rows_2] W raw ow := by rw [W_eq]; exact evw_ext cfg_ext61 false raw ow
theorem x_slices_Clone_int_int (xs : List PV) (h : xs.length ≤ 4294967296) : wc W n_slices_Clone_int_int [PV.slice 0 xs] = some (PV.slice 0 xs) := by rw [W_eq]; exact clone_w cfg_ext96 xs h
theorem x_slices_Clone_int_int_raw (xs : List PV) (h : xs.length ≤ 4294967296) : W n_slices_Clone_int_int true [.pv (.slice 0 xs)] [] = some (.view 0 0 none, [.row false 0 0 xs]) := by rw [W_eq]; exact clone_raw cfg_ext96 xs h
theorem x_slices_Sort_int_int (raw : Bool) (ver : Nat) (zs : List Int) (hl : zs.length ≤ 4294967296) : W n_slices_Sort_int_int raw [.fx 0 0] [.fix ver 0 (zs.map (.int .i64))] = some (.pv (.tup []), [.fix ver 0 ((sortI zs).map (.int .i64))]) := by rw [W_eq]; exact sort_w cfg_ext139 raw ver zs hl
theorem x_slices_Compact_int_int (ver : Nat) (zs : List Int) (hl : zs.length ≤ 4294967296) : W n_slices_Compact_int_int false [.view 0 ver none] [.row false ver 0 (zs.map (.int .i64))] = some (.pv (.slice 0 ((Lib.compact zs).map (.int .i64))), [.dead]) := by rw [W_eq]; exact compact_w cfg_ext140 ver zs hl
theorem x_slices_Clone_api_Val_api_Val (xs : List PV) (h : xs.length ≤ 4294967296) : wc W n_slices_Clone_api_Val_api_Val [PV.slice 3 xs] = some (PV.slice 3 xs) := by rw [W_eq]; exact clone_w cfg_ext166 xs h
theorem x_bits_Mul64 (x y : Int) (h1 : 0 ≤ x) (h2 : x < 18446744073709551616) (h3 : 0 ≤ y) (h4 : y < 18446744073709551616) : wc W n_bits_Mul64 [.int .u64 x, .int .u64 y] = some (.tup [.int .u64 ((x.toNat * y.toNat / 18446744073709551616 : Nat) : Int), .int .u64 ((x.toNat * y.toNat % 18446744073709551616 : Nat) : Int)]) := by rw [W_eq]; exact mul64_w cfg_ext295 x y h1 h2 h3 h4
end Go.Cf

namespace Go.Cf
open Go Go.Ab
set_option linter.unusedVariables false
def I64 (n : Int) : Prop := -9223372036854775808 ≤ n ∧ n ≤ 9223372036854775807
theorem wrap64 {n : Int} (h1 : -9223372036854775808 ≤ n) (h2 : n ≤ 9223372036854775807) : IntKind.wrap .i64 n = n := by
  simp only [IntKind.wrap, IntKind.bits, IntKind.signed]
  simp
  omega
theorem wrap_nat {n : Nat} (h : n ≤ 9223372036854775807) : IntKind.wrap .i64 (n : Int) = n := wrap64 (by omega) (by omega)
theorem wrap_succ {n : Nat} (h : n < 9223372036854775807) : IntKind.wrap .i64 ((n : Int) + 1) = ((n + 1 : Nat) : Int) := by rw [wrap64 (by omega) (by omega)]; omega
@[simp] theorem asTup_mk (l : List PV) : PV.asTup (.tup l) = some l := rfl
@[simp] theorem asFn_mk (f : Nat) (a b : List PV) : PV.asFn (.fn f a b) = some (f, a, b) := rfl
@[simp] theorem nat_le (n : Nat) : decide ((0 : Int) ≤ (n : Int)) = true := by simp
theorem wf_i64 {n : Int} (h : (Lit.int .i64 n).wf = true) : I64 n := by
  simp only [Lit.wf, Bool.and_eq_true, decide_eq_true_eq] at h
  exact h
theorem loop_all {R : Type} (L : Int → Option R) (n : Nat) (p : Nat → Bool) (r s : Option R) (hs : ∀ i : Nat, i < n → L (i : Int) = bif p i then L ((i : Int) + 1) else r) (he : L (n : Int) = s) :
    L 0 = bif (List.range n).all p then s else r := by
  have : ∀ k i : Nat, i + k = n → L (i : Int) = bif (List.range' i k).all p then s else r := by
    intro k
    induction k with
    | zero => intro i h; simp at h; subst h; simpa using he
    | succ k ih =>
      intro i h
      rw [hs i (by omega), show ((i : Int) + 1) = ((i + 1 : Nat) : Int) by omega, ih (i + 1) (by omega), List.range'_succ, List.all_cons]
      cases p i <;> simp
  have h0 := this n 0 (by omega)
  rw [List.range_eq_range']
  exact h0
theorem all_get {α : Type} (l : List α) (q : α → Bool) : ((List.range l.length).all fun i => (l[i]?).all q) = l.all q := by
  rw [Bool.eq_iff_iff, List.all_eq_true, List.all_eq_true]
  constructor
  · intro h x hx
    obtain ⟨i, hi, rfl⟩ := List.mem_iff_getElem.1 hx
    have := h i (by simpa using hi)
    simpa [List.getElem?_eq_getElem hi] using this
  · intro h i hi
    have hi' : i < l.length := by simpa using hi
    simpa [List.getElem?_eq_getElem hi'] using h _ (List.getElem_mem hi')
theorem lt_len {i n : Nat} (h : i < n) : decide ((i : Int) < (n : Int)) = true := by simpa using h
theorem ge_len {n : Nat} : decide ((n : Int) < (n : Int)) = false := by simp
theorem bne_t {α : Type} [BEq α] [LawfulBEq α] {a b : α} (h : a ≠ b) : (a != b) = true := by simpa using h
theorem bne_f {α : Type} [BEq α] [LawfulBEq α] {a b : α} (h : a = b) : (a != b) = false := by simpa using h
theorem beq_t {α : Type} [BEq α] [LawfulBEq α] {a b : α} (h : a = b) : (a == b) = true := by simpa using h
theorem beq_f {α : Type} [BEq α] [LawfulBEq α] {a b : α} (h : a ≠ b) : (a == b) = false := by simpa using h
theorem all_eq {α : Type} [DecidableEq α] (a b : List α) (e : a.length = b.length) : ((List.range a.length).all fun i => decide (a[i]? = b[i]?)) = decide (a = b) := by
  by_cases hab : a = b
  · subst hab; simp
  · rw [decide_eq_false hab, Bool.eq_false_iff]
    intro hall
    apply hab
    rw [List.all_eq_true] at hall
    apply List.ext_getElem?
    intro i
    by_cases hi : i < a.length
    · simpa using hall i (by simpa using hi)
    · rw [List.getElem?_eq_none (by omega), List.getElem?_eq_none (by omega)]
end Go.Cf
