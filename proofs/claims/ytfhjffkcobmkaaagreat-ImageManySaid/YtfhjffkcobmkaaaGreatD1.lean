/- Chunks of an empty slice and of a slice of four bytes by two. -/
import Derived.WalkKit
import Derived.Lib.Hide
import Derived.WalkLawsBesides
import Derived.WalkSpells
import Derived.BigQuiet
import Derived.Deep.QuietTactic
import Derived.Handy
import Derived.RangeFuncBox
import Derived.Shelf.Abstract
import Derived.Deep.RegionWith
import Derived.Deep.RegionHeld3
import Derived.StillTailTactics
import Derived.Lib.AppendStr
import Derived.RangeFuncNested
import Derived.RangeFuncBound
import Derived.RangeFuncCalls
import Derived.RangeFuncLeaves
import Derived.Shelf.AbstractIn
import Derived.Shelf.RegionOpen
import Derived.OwnWalkIn
import Derived.TacticsInMore
import Derived.LoopNIn
import Derived.LoopIn
import Derived.LaidEqlPtr
import Derived.Lib.Builder
import Derived.Test.YtfhjffkcobmkaaaGreatC6
set_option linter.unusedVariables false
set_option linter.unusedSimpArgs false
namespace Go.Proofs.YtfhjffkcobmkaaaGreat
open Go.RowKit
attribute [local go_sem] Oper.semAt_some
attribute [local irreducible] wpStill
theorem ent54 : ∀ (args : Array Value) (w : World), (callFunc 54 args).run Tryz.prog w = .ok (.enter 54 args) w := enters_of Tryz.func54 (by kernel_rfl) rfl
theorem chunk43 (p : Option Addr) (k c : Nat) (n : Int) (hn : 1 ≤ n) (w : World) :
    Calls Tryz.prog 43 #[.slice p k c, .int .i64 n] w fun e w' => e = .returned (.func (.func 54) #[] #[.pointer (some ⟨w.heap.size, 0, none⟩), .pointer (some ⟨w.heap.size + 1, 0, none⟩)]) ∧ (w.alloc (.cells #[.slice p k c] 28)).alloc (.cells #[.int .i64 n] 3) = w' := by
  have h0 : decide (n < 1) = false := by simpa using hn
  go_enter Tryz.func43, Tryz.ntmps43
  go_wp2
  go_ret
  exact ⟨by simp, rfl⟩
/-- no chunk of an empty slice -/
theorem chunk54none (l B C : Nat) (p : Option Addr) (c : Nat) (n : Int) (w : World) (hb : Boxed w B 28 (.slice p 0 c)) :
    Calls Tryz.prog 54 #[.func (.yield l) #[] #[], .pointer (some ⟨B, 0, none⟩), .pointer (some ⟨C, 0, none⟩)] w fun e W => e = .returned (.tuple #[]) ∧ w = W := by
  have hc := hb.cell
  go_enter Tryz.func54, Tryz.ntmps54
  go_wp2
  refine wp_loop_rounds 1 ?_
  rw [rounds_succ]
  go_wp2
  go_end0
  exact ⟨rfl, rfl⟩
set_option maxHeartbeats 1000000 in
set_option maxRecDepth 100000 in
theorem chunk54two (l B C S o c : Nat) (J0 J1 J2 : World → Prop) (hc4 : 4 ≤ c) (hcm : c ≤ maxLen)
    (d0 : ∀ W, J0 W → J0 W.drew) (d1 : ∀ W, J1 W → J1 W.drew) (d2 : ∀ W, J2 W → J2 W.drew)
    (t0 : ∀ W, J0 W → Boxed W B 28 (.slice (some ⟨S, o, none⟩) 4 c) ∧ Boxed W C 3 (.int .i64 2)) (t1 : ∀ W, J1 W → Boxed W B 28 (.slice (some ⟨S, o, none⟩) 4 c) ∧ Boxed W C 3 (.int .i64 2)) (t2 : ∀ W, J2 W → Boxed W B 28 (.slice (some ⟨S, o, none⟩) 4 c) ∧ Boxed W C 3 (.int .i64 2))
    (y1 : ∀ W, J0 W → YieldAt Fence.wide 0 Tryz.prog l #[.slice (some ⟨S, o, none⟩) 2 2] W fun e W' => e = .returned (.bool true) ∧ J1 W')
    (y2 : ∀ W, J1 W → YieldAt Fence.wide 0 Tryz.prog l #[.slice (some ⟨S, o + 2, none⟩) 2 2] W fun e W' => e = .returned (.bool true) ∧ J2 W') (w : World) (h0 : J0 w) :
    Calls Tryz.prog 54 #[.func (.yield l) #[] #[], .pointer (some ⟨B, 0, none⟩), .pointer (some ⟨C, 0, none⟩)] w fun e W => e = .returned (.tuple #[]) ∧ J2 W := by
  have hmix : Tryz.prog.follows .mixedOrders = true := by kernel_rfl
  refine (callsIn_wide (n := 0)).1 ?_
  refine callsIn_of_wp Tryz.func54 rfl trivial ?_ rfl
  simp only [Tryz.ntmps54, List.size_toArray, List.length_cons, List.length_nil, Nat.reduceAdd, Nat.reduceSub, Array.replicate_succ, Array.replicate_zero, List.push_toArray, List.append_toArray, List.nil_append, List.cons_append]
  have c0 := (t0 w h0).1.cell
  have e0 := (t0 w h0).2.cell
  have DD0 := Lib.hid d0
  have DD1 := Lib.hid d1
  have DD2 := Lib.hid d2
  have TT0 := Lib.hid t0
  have TT1 := Lib.hid t1
  have TT2 := Lib.hid t2
  have YY1 := Lib.hid y1
  have YY2 := Lib.hid y2
  clear d0 d1 d2 t0 t1 t2 y1 y2
  have h0' := DD0.out w h0
  gi_wp2
  refine wpIn_loop_rounds 3 ?_
  rw [roundsIn_succ]
  gi_wp2
  refine wpIn_region_tail (ro := none) 5 hmix (by kernel_rfl) ?_
  generalize w.drew = wd at h0' ⊢
  have c0 := (TT0.out wd h0').1.cell
  have e0 := (TT0.out wd h0').2.cell
  simp only [List.take_succ_cons, List.take_zero, List.drop_succ_cons, List.drop_zero]
  obtain ⟨fn1, tm1, sg1, bd1, hy1, hR1⟩ := YY1.out wd h0'
  have HR := Lib.hid hR1
  clear hR1
  repeat still_step
  refine wpStill_nil ?_
  change wpListIn Fence.wide _ _ _ _ _ _ _
  gi_wp2
  refine ⟨rfl, ?_⟩
  refine HR.out.mono ?_
  rintro e W1 ⟨rfl, hJ1⟩
  clear c0 e0 HR hy1 h0' fn1 tm1 sg1 bd1 wd
  have c0 := (TT1.out W1 hJ1).1.cell
  have e0 := (TT1.out W1 hJ1).2.cell
  have h0' := DD1.out W1 hJ1
  gi_wp2
  rw [roundsIn_succ]
  gi_wp2
  refine wpIn_region_tail (ro := none) 5 hmix (by kernel_rfl) ?_
  clear c0 e0
  generalize W1.drew = wd at h0' ⊢
  have c0 := (TT1.out wd h0').1.cell
  have e0 := (TT1.out wd h0').2.cell
  simp only [List.take_succ_cons, List.take_zero, List.drop_succ_cons, List.drop_zero]
  obtain ⟨fn1, tm1, sg1, bd1, hy1, hR1⟩ := YY2.out wd h0'
  have HR := Lib.hid hR1
  clear hR1
  repeat still_step
  refine wpStill_nil ?_
  change wpListIn Fence.wide _ _ _ _ _ _ _
  gi_wp2
  refine ⟨rfl, ?_⟩
  refine HR.out.mono ?_
  rintro e W2 ⟨rfl, hJ2⟩
  clear c0 e0 HR hy1 h0' fn1 tm1 sg1 bd1 wd
  have c0 := (TT2.out W2 hJ2).1.cell
  have e0 := (TT2.out W2 hJ2).2.cell
  gi_wp2
  rw [roundsIn_succ]
  gi_wp2
  go_end0
  exact ⟨rfl, hJ2⟩
end Go.Proofs.YtfhjffkcobmkaaaGreat
