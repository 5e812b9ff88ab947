/- The iterator of the ring of entries, over two of them. -/
import Derived.WalkKit
import Derived.Lib.Hide
import Derived.WalkLawsBesides
import Derived.WalkSpells
import Derived.BigQuiet
import Derived.Deep.QuietTactic
import Derived.Handy
import Derived.RangeFuncBox
import Derived.Shelf.Abstract
import Derived.Deep.RegionWith
import Derived.Deep.RegionHeld3
import Derived.StillTailTactics
import Derived.Lib.AppendStr
import Derived.RangeFuncNested
import Derived.RangeFuncBound
import Derived.RangeFuncCalls
import Derived.RangeFuncLeaves
import Derived.Shelf.AbstractIn
import Derived.Shelf.RegionOpen
import Derived.OwnWalkIn
import Derived.TacticsInMore
import Derived.LoopNIn
import Derived.LoopIn
import Derived.LaidEqlPtr
import Derived.Lib.Builder
import Derived.Test.YtfhjffkcobmkaaaGreatC2
set_option linter.unusedVariables false
set_option linter.unusedSimpArgs false
namespace Go.Proofs.YtfhjffkcobmkaaaGreat
open Go.RowKit
theorem Tryz.info124 : (Tryz.prog.info? 124).map (fun i => (i.zero, i.size, i.bytes)) = some (some (.agg #[.string ⟨#[]⟩, .pointer none, .pointer none, .pointer none]), 4, 40) := by kernel_rfl
theorem run_neq_other (a b : Addr) (ca cb : Array Value) (ta tb : TypeId) (w : World) (hne : a ≠ b) (ha : w.heap[a.block]? = some (.cells ca ta (0, 0))) (hb : w.heap[b.block]? = some (.cells cb tb (0, 0))) :
    (binOp .neq 122 (.pointer (some a)) (.pointer (some b))).run Tryz.prog w = .ok (.bool true) w := by
  obtain ⟨i0, hi, _, hz1, _⟩ := info_parts Tryz.info124
  have h : ∀ d : Nat, (Op.equalIn (d + 1) 122 (.pointer (some a)) (.pointer (some b))).run Tryz.prog w = .ok false w := fun d => by
    simp [Op.equalIn, run_underlying Tryz.underlying122, sizeOf, typeInfo, hi, hz1, run_sameAddr_other w hne ha hb]
  simp only [binOp]
  simp [Op.equal, Op.maxDepth, h 9999]
theorem run_neq_same (a : Addr) (w : World) : (binOp .neq 122 (.pointer (some a)) (.pointer (some a))).run Tryz.prog w = .ok (.bool false) w := by
  obtain ⟨i0, hi, _, hz1, _⟩ := info_parts Tryz.info124
  exact Lib.run_neq_ptr_same w a Tryz.underlying122 hi
/-- the body of the one loop in a code -/
def inner : Code → Code
  | .seq _ b => inner b
  | .block _ c => inner c
  | .loop c => c
  | c => c
noncomputable def body130 : Code := match Tryz.f130.body with
  | some c => inner c
  | none => .skip
/-- the slots in the ring's loop: the yield, the list's box, the entry -/
def St130 (f bx x : Value) (t : Array Value) : Prop := ∃ v2 v4 v5 v6 v7 v8 v9 v10 v11 v12 v13 v14 v15 v16 v17 v18 v19 v20 v21 v22 v23 v24 v25 v26 v27 v28 v29, t = #[f, bx, v2, x, v4, v5, v6, v7, v8, v9, v10, v11, v12, v13, v14, v15, v16, v17, v18, v19, v20, v21, v22, v23, v24, v25, v26, v27, v28, v29]
/-- two entries of a list: their blocks, keys -/
structure Pair (W : World) (L M : Nat) (m : Int) (X1 X2 E1 E2 : Nat) (k1 k2 : ByteArray) : Prop where
  list : LAt W L M m ⟨X2, 0, none⟩ ⟨X1, 0, none⟩
  one : W.heap[X1]? = some (.cells (linkCells k1 E1 (.pointer (some ⟨L, 1, none⟩)) (.pointer (some ⟨X2, 0, none⟩))) 124 (0, 0))
  two : W.heap[X2]? = some (.cells (linkCells k2 E2 (.pointer (some ⟨X1, 0, none⟩)) (.pointer (some ⟨L, 1, none⟩))) 124 (0, 0))
attribute [local irreducible] wpStill
set_option maxHeartbeats 1000000 in
set_option maxRecDepth 100000 in
theorem ringStep (l b L X E : Nat) (k : ByteArray) (u nx : Value) (cs : Array Value) (J : World → Prop) {Q : Exit → Act → World → Prop} {t : Array Value} {w : World}
    (ht : St130 (.func (.yield l) #[] #[]) (.pointer (some ⟨b, 0, none⟩)) (.pointer (some ⟨X, 0, none⟩)) t)
    (hb : Boxed w b 102 (.pointer (some ⟨L, 0, none⟩))) (hx : w.heap[X]? = some (.cells (linkCells k E u nx) 124 (0, 0))) (hL : w.heap[L]? = some (.cells cs 126 (0, 0)))
    (hy : YieldAt Fence.wide 0 Tryz.prog l #[.string k, .pointer (some ⟨E, 0, none⟩)] w.drew fun e W => e = .returned (.bool true) ∧ (J W ∧ W.heap[X]? = some (.cells (linkCells k E u nx) 124 (0, 0))))
    (hQ : ∀ W t', J W → St130 (.func (.yield l) #[] #[]) (.pointer (some ⟨b, 0, none⟩)) nx t' → Q .normal { tmps := t', defers := [] } W) :
    body130.wpIn Fence.wide 0 Tryz.prog Q { tmps := t, defers := [] } w := by
  have hmix : Tryz.prog.follows .mixedOrders = true := by kernel_rfl
  obtain ⟨v2, v4, v5, v6, v7, v8, v9, v10, v11, v12, v13, v14, v15, v16, v17, v18, v19, v20, v21, v22, v23, v24, v25, v26, v27, v28, v29, rfl⟩ := ht
  obtain ⟨fn1, tmps1, as1, bd1, hy1, hR1⟩ := hy
  simp only [body130, Tryz.f130, inner]
  have HQ := Lib.hid hQ
  have HR := Lib.hid hR1
  clear hQ hR1
  refine wpIn_seq_k fun K hK => ?_
  refine wpIn_seq_k fun K2 hK2 => ?_
  refine wpIn_region_tail (ro := none) 15 hmix (by kernel_rfl) ?_
  have hb' : w.drew.cell? ⟨b, 0, none⟩ = _ := (show Boxed w.drew b 102 _ from hb).cell
  have n1 := run_neq_other ⟨X, 0, none⟩ ⟨L, 1, none⟩ _ _ _ _ w.drew (by intro h; cases h) hx hL
  obtain ⟨a0, a1, a2, a3⟩ := cells4 (show w.drew.heap[X]? = _ from hx)
  generalize w.drew = wd at hy1 HR hb' n1 a0 a1 a2 a3 ⊢
  clear hb hx hL w
  simp only [List.take_succ_cons, List.take_zero, List.drop_succ_cons, List.drop_zero]
  repeat still_step
  refine wpStill_nil ?_
  change wpListIn Fence.wide _ _ _ _ _ _ _
  gi_wp2
  refine ⟨rfl, ?_⟩
  refine HR.out.mono ?_
  rintro e W1 ⟨rfl, hJ1, hx1⟩
  clear hb' a0 a1 a2 a3 n1 HR hy1
  obtain ⟨a0, a1, a2, a3⟩ := cells4 hx1
  gi_wp2
  exact HQ.out _ _ hJ1 ⟨_, _, _, _, _, _, _, _, _, _, _, _, _, _, _, _, _, _, _, _, _, _, _, _, _, _, _, rfl⟩
set_option maxHeartbeats 1000000 in
set_option maxRecDepth 100000 in
theorem ringEnd (l b L : Nat) {Q : Exit → Act → World → Prop} {t : Array Value} {w : World}
    (ht : St130 (.func (.yield l) #[] #[]) (.pointer (some ⟨b, 0, none⟩)) (.pointer (some ⟨L, 1, none⟩)) t)
    (hb : Boxed w b 102 (.pointer (some ⟨L, 0, none⟩)))
    (hQ : ∀ t', Q (.exit 0) { tmps := t', defers := [] } w.drew) :
    body130.wpIn Fence.wide 0 Tryz.prog Q { tmps := t, defers := [] } w := by
  have hmix : Tryz.prog.follows .mixedOrders = true := by kernel_rfl
  obtain ⟨v2, v4, v5, v6, v7, v8, v9, v10, v11, v12, v13, v14, v15, v16, v17, v18, v19, v20, v21, v22, v23, v24, v25, v26, v27, v28, v29, rfl⟩ := ht
  simp only [body130, Tryz.f130, inner]
  have HQ := Lib.hid hQ
  clear hQ
  refine wpIn_seq_k fun K hK => ?_
  clear hK
  refine wpIn_seq_k fun K2 hK2 => ?_
  refine wpIn_region_tail (ro := none) 15 hmix (by kernel_rfl) ?_
  have hb' : w.drew.cell? ⟨b, 0, none⟩ = _ := (show Boxed w.drew b 102 _ from hb).cell
  have n1 := run_neq_same ⟨L, 1, none⟩ w.drew
  generalize w.drew = wd at hb' n1 HQ ⊢
  clear hb w
  simp only [List.take_succ_cons, List.take_zero, List.drop_succ_cons, List.drop_zero]
  repeat still_step
  refine wpStill_nil ?_
  change wpListIn Fence.wide _ _ _ _ _ _ _
  gi_wp2
  refine ⟨fun _ _ => trivial, ?_⟩
  gi_wp2
  exact HQ.out _

set_option maxHeartbeats 1000000 in
theorem ring130 (l b L M X1 X2 E1 E2 : Nat) (m : Int) (k1 k2 : ByteArray) (J0 J1 J2 : World → Prop)
    (d0 : ∀ W, J0 W → J0 W.drew) (d1 : ∀ W, J1 W → J1 W.drew) (d2 : ∀ W, J2 W → J2 W.drew)
    (t0 : ∀ W, J0 W → Pair W L M m X1 X2 E1 E2 k1 k2 ∧ Boxed W b 102 (.pointer (some ⟨L, 0, none⟩))) (t1 : ∀ W, J1 W → Pair W L M m X1 X2 E1 E2 k1 k2 ∧ Boxed W b 102 (.pointer (some ⟨L, 0, none⟩))) (t2 : ∀ W, J2 W → Pair W L M m X1 X2 E1 E2 k1 k2 ∧ Boxed W b 102 (.pointer (some ⟨L, 0, none⟩)))
    (y1 : ∀ W, J0 W → YieldAt Fence.wide 0 Tryz.prog l #[.string k1, .pointer (some ⟨E1, 0, none⟩)] W fun e W' => e = .returned (.bool true) ∧ J1 W')
    (y2 : ∀ W, J1 W → YieldAt Fence.wide 0 Tryz.prog l #[.string k2, .pointer (some ⟨E2, 0, none⟩)] W fun e W' => e = .returned (.bool true) ∧ J2 W') (w : World) (h0 : J0 w) :
    Calls Tryz.prog 130 #[.func (.yield l) #[] #[], .pointer (some ⟨b, 0, none⟩)] w fun e W => e = .returned (.tuple #[]) ∧ J2 W := by
  refine (callsIn_wide (n := 0)).1 ?_
  refine callsIn_of_wp Tryz.func130 rfl trivial ?_ rfl
  simp only [Tryz.ntmps130, List.size_toArray, List.length_cons, List.length_nil, Nat.reduceAdd, Nat.reduceSub, Array.replicate_succ, Array.replicate_zero, List.push_toArray, List.append_toArray, List.nil_append, List.cons_append]
  have T0 := t0 w h0
  have c0 := T0.2.cell
  obtain ⟨z0, z1, z2, z3, z4, z5⟩ := cells6 T0.1.list.h
  have G : ∀ (Q : Exit → Act → World → Prop) (t : Array Value), (∀ t' W, J2 W → Q (.exit 0) { tmps := t', defers := [] } W) → St130 (.func (.yield l) #[] #[]) (.pointer (some ⟨b, 0, none⟩)) (.pointer (some ⟨X1, 0, none⟩)) t →
      Code.roundsIn Fence.wide 0 Tryz.prog body130 Q 3 { tmps := t, defers := [] } w := by
    intro Q t hQ ht
    rw [roundsIn_succ]
    refine ringStep l b L X1 E1 k1 _ _ _ J1 ht T0.2 T0.1.one T0.1.list.h ?_ ?_
    · obtain ⟨fn, tm, sg, bd, hy, hR⟩ := y1 _ (d0 _ h0)
      exact ⟨fn, tm, sg, bd, hy, hR.mono fun e W h => ⟨h.1, h.2, (t1 W h.2).1.one⟩⟩
    intro W1 t1' hj1 ht1
    show Code.roundsIn Fence.wide 0 Tryz.prog body130 Q 2 _ W1
    rw [roundsIn_succ]
    have T1 := t1 W1 hj1
    refine ringStep l b L X2 E2 k2 _ _ _ J2 ht1 T1.2 T1.1.two T1.1.list.h ?_ ?_
    · obtain ⟨fn, tm, sg, bd, hy, hR⟩ := y2 _ (d1 _ hj1)
      exact ⟨fn, tm, sg, bd, hy, hR.mono fun e W h => ⟨h.1, h.2, (t2 W h.2).1.two⟩⟩
    intro W2 t2' hj2 ht2
    show Code.roundsIn Fence.wide 0 Tryz.prog body130 Q 1 _ W2
    rw [roundsIn_succ]
    have T2 := t2 W2 hj2
    exact ringEnd l b L ht2 T2.2 (fun t' => hQ _ _ (d2 _ hj2))
  have HG := Lib.hid G
  clear G d0 d1 d2 t0 t1 t2 y1 y2
  gi_wp2
  refine wpIn_loop_rounds 3 ?_
  change Code.roundsIn _ _ _ body130 _ _ _ _
  refine HG.out _ _ ?_ ⟨_, _, _, _, _, _, _, _, _, _, _, _, _, _, _, _, _, _, _, _, _, _, _, _, _, _, _, rfl⟩
  intro t' W hW
  gi_wp2
  go_end0
  exact ⟨rfl, hW⟩
end Go.Proofs.YtfhjffkcobmkaaaGreat
