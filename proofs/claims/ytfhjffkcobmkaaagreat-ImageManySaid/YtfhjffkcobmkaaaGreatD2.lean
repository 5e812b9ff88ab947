/- Restore of a hash without entries. -/
import Derived.WalkKit
import Derived.Lib.Hide
import Derived.WalkLawsBesides
import Derived.WalkSpells
import Derived.BigQuiet
import Derived.Deep.QuietTactic
import Derived.Handy
import Derived.RangeFuncBox
import Derived.Shelf.Abstract
import Derived.Deep.RegionWith
import Derived.Deep.RegionHeld3
import Derived.StillTailTactics
import Derived.Lib.AppendStr
import Derived.RangeFuncNested
import Derived.RangeFuncBound
import Derived.RangeFuncCalls
import Derived.RangeFuncLeaves
import Derived.Shelf.AbstractIn
import Derived.Shelf.RegionOpen
import Derived.OwnWalkIn
import Derived.TacticsInMore
import Derived.LoopNIn
import Derived.LoopIn
import Derived.LaidEqlPtr
import Derived.Lib.Builder
import Derived.Test.YtfhjffkcobmkaaaGreatD1
set_option linter.unusedVariables false
set_option linter.unusedSimpArgs false
namespace Go.Proofs.YtfhjffkcobmkaaaGreat
open Go.RowKit
attribute [local go_sem] Oper.semAt_some
attribute [local irreducible] wpStill
theorem conv_nil (p : Option Addr) (c : Nat) (w : World) : (convert 28 9 (.slice p 0 c)).run Tryz.prog w = .ok (.string ⟨#[]⟩) w := by
  cases p with
  | none => exact run_convert_bytes_nil (w := w) 28 5 Tryz.underlying28 Tryz.underlying5 0 c 9 Tryz.underlying9
  | some a => exact run_convert_bytes_back w 28 9 5 a c [] Tryz.underlying28 Tryz.underlying5 Tryz.underlying9 (fun j hj => absurd hj (by simp))
theorem conv_row (g cap : Nat) (bs : List UInt8) (w : World) (o n : Nat) (hn : n = bs.length) (h : ∀ j u, (bs.map u8)[j]? = some u → w.cell? ⟨g, o + j, none⟩ = some u) : (convert 28 9 (.slice (some ⟨g, o, none⟩) n cap)).run Tryz.prog w = .ok (.string ⟨bs.toArray⟩) w := by
  subst hn
  refine run_convert_bytes_back w 28 9 5 ⟨g, o, none⟩ cap bs Tryz.underlying28 Tryz.underlying5 Tryz.underlying9 (fun j hj => ?_)
  have := h j (u8 bs[j]) (by simp [hj])
  have h9 : (⟨g, o, none⟩ : Addr).add j = ⟨g, o + j, none⟩ := by
    cases j <;> simp [Addr.add]
  rw [h9, this]; rfl
theorem equal45 (va vb : Value) (s : ByteArray) (w : World) (ha : (convert 28 9 va).run Tryz.prog w = .ok (.string s) w) (hb : (convert 28 9 vb).run Tryz.prog w = .ok (.string s) w) :
    Calls Tryz.prog 45 #[va, vb] w fun e W => e = .returned (.bool true) ∧ w = W := by
  go_enter Tryz.func45, Tryz.ntmps45
  go_wp2
  go_ret
  exact ⟨by simp, rfl⟩
theorem results_cells2 {fn : Func} {p u : Tmp} {ty ty' : TypeId} (h : fn.results = #[.cell p ty, .cell u ty']) (tmps : Array Value) (w : World) (a b : Addr) (v v' : Value) (hp : tmps.getD p undef = .pointer (some a)) (hu : tmps.getD u undef = .pointer (some b))
    (ha : (loadVar ty a).run Tryz.prog w = .ok v w) (hb : (loadVar ty' b).run Tryz.prog w = .ok v' w) : (results fn tmps).run Tryz.prog w = .ok (.tuple #[v, v']) w := by
  have h1 : tmps[p]?.getD undef = .pointer (some a) := by simpa using hp
  have h2 : tmps[u]?.getD undef = .pointer (some b) := by simpa using hu
  simp [results, h, h1, h2, asAddr, ha, hb, Sem.run_bind, Result.andThen]
theorem load69 (w : World) (B : Nat) (v : Value) (h : Boxed w B 69 v) : (loadVar 69 ⟨B, 0, none⟩).run Tryz.prog w = .ok v w := by
  have h1 := h.cell
  have h2 := run_underlying Tryz.underlying69 (w := w)
  simp [loadVar, go_sem, h1, h2]
theorem load38 (w : World) (B : Nat) (v : Value) (h : Boxed w B 38 v) : (loadVar 38 ⟨B, 0, none⟩).run Tryz.prog w = .ok v w := by
  have h1 := h.cell
  have h2 := run_underlying Tryz.underlying38 (w := w)
  simp [loadVar, go_sem, h1, h2]
/-- Restore's own blocks -/
structure RS (w : World) (T r6 : Nat) (tc : Array Value) (W : World) : Prop where
  below : Below w.heap.size w W
  b1 : Boxed W (w.heap.size + 1) 69 (.pointer none)
  b2 : Boxed W (w.heap.size + 1 + 1) 38 (.int .i64 0)
  b6 : Boxed W r6 69 (.pointer (some ⟨T, 0, none⟩))
  tab : W.heap[T]? = some (.cells tc 101 (0, 0))
theorem RS.same {w : World} {T r6 : Nat} {tc : Array Value} {W W' : World} (h : RS w T r6 tc W) (hb : Below w.heap.size w W') (hk : ∀ k, k = w.heap.size + 1 ∨ k = w.heap.size + 1 + 1 ∨ k = r6 ∨ k = T → W'.heap[k]? = W.heap[k]?) : RS w T r6 tc W' :=
  ⟨hb, (hk _ (.inl rfl)).trans h.b1, (hk _ (.inr (.inl rfl))).trans h.b2, (hk _ (.inr (.inr (.inl rfl)))).trans h.b6, (hk _ (.inr (.inr (.inr rfl)))).trans h.tab⟩
theorem RS.later {w : World} {T r6 : Nat} {tc : Array Value} {W W' : World} (h : RS w T r6 tc W) (hb : Below W.heap.size W W') : RS w T r6 tc W' := by
  have h1 := h.b1.lt; have h2 := h.b2.lt; have h6 := h.b6.lt; have ht := (Array.getElem?_eq_some_iff.1 h.tab).1
  exact h.same (h.below.trans (hb.mono h.below.size)) fun k hk => hb.block k (by omega)
set_option maxHeartbeats 1000000 in
set_option maxRecDepth 100000 in
theorem restore25hash (c : UInt8) (hc : Letter c) (m : Int) (hm : RightMap 2 1 1 m) (p : Option Addr) (cap : Nat) (w : World) :
    Calls Tryz.prog 25 #[.agg (mapCells (One c) 2 1 1 m), .slice p 0 cap] w fun e W => ∃ T, e = .returned (.tuple #[.pointer (some ⟨T, 0, none⟩), .int .i64 0]) ∧ Below w.heap.size w W := by
  refine (callsIn_wide (n := 0)).1 ?_
  refine callsIn_of_wp_marks Tryz.func25 rfl trivial ?_
  simp only [Tryz.ntmps25, List.size_toArray, List.length_cons, List.length_nil, Nat.reduceAdd, Nat.reduceSub, Array.replicate_succ, Array.replicate_zero, List.push_toArray, List.append_toArray, List.nil_append, List.cons_append]
  have hn := fun W => new42hash c hc 1 1 m hm W
  have hq := fun W => conv_nil p cap W
  obtain ⟨_, _, _, _, _, _, hm1, hm2⟩ := hm
  have e1 : decide (2 * m < 0) = false := by simp; omega
  unfold mapCells at hn ⊢
  gi_wp2_with (fail)
  refine ⟨trivial, rfl, ?_⟩
  generalize hwa : ((w.alloc _).alloc _).alloc _ = wa
  have hba : Below w.heap.size w wa := by rw [← hwa]; exact (((Below.refl _ _).alloc (Nat.le_refl _) _).alloc (by simp) _).alloc (by simp; omega) _
  have hsa : wa.heap.size = w.heap.size + 3 := by rw [← hwa]; simp
  have a0 : wa.heap[w.heap.size]? = some (.cells (mapCells (One c) 2 1 1 m) 33 (0, 0)) := by rw [← hwa]; exact (heap_old _ _ _ (by simp; omega)).trans ((heap_old _ _ _ (by simp)).trans (heap_new _ _ _ rfl))
  have a1 : Boxed wa (w.heap.size + 1) 69 (.pointer none) := by rw [← hwa]; exact (heap_old _ _ _ (by simp)).trans (heap_new _ _ _ (by simp))
  have a2 : Boxed wa (w.heap.size + 1 + 1) 38 (.int .i64 0) := by rw [← hwa]; exact heap_new _ _ _ (by simp)
  clear hwa
  refine (callsIn_wide.2 (hn wa)).mono ?_
  rintro e w1 ⟨T, M, rfl, hb1, hT, hM, hT1, hM1⟩
  have hs1 := hb1.size
  have a0 := (hb1.block _ (by omega)).trans a0
  have a1 : Boxed w1 (w.heap.size + 1) 69 _ := (hb1.block _ (by omega)).trans a1
  have a2 : Boxed w1 (w.heap.size + 1 + 1) 38 _ := (hb1.block _ (by omega)).trans a2
  have hb2 := hba.trans (hb1.mono (by omega))
  clear hn hba hb1
  obtain ⟨z0, z1, z2, z3, z4⟩ := cells5 a0
  have hl0 : w.heap.size < w1.heap.size := by omega
  have hl1 : w.heap.size + 1 < w1.heap.size := by omega
  have hl2 : w.heap.size + 1 + 1 < w1.heap.size := by omega
  have hlT := (Array.getElem?_eq_some_iff.1 hT1).1
  have hlM := (Array.getElem?_eq_some_iff.1 hM1).1
  clear hs1 hsa hT hM
  have x1 := a1.cell
  have x2 := a2.cell
  have f1 := a1.frozen
  have f2 := a2.frozen
  gi_wp2_with (fail)
  refine ⟨trivial, rfl, ?_⟩
  clear z0 z1 z2 z3 z4 x1 x2 f1 f2
  have R1 : RS w T w1.heap.size _ (w1.alloc (.cells #[.pointer (some ⟨T, 0, none⟩)] 69)) := ⟨hb2.alloc (by omega) _, a1.alloc _, a2.alloc _, Boxed.new _ _ _, (heap_old _ _ _ hlT).trans hT1⟩
  have hM2 : (w1.alloc (.cells #[.pointer (some ⟨T, 0, none⟩)] 69)).heap[M]? = some (.map #[] 0) := (heap_old _ _ _ hlM).trans hM1
  have hs2 : (w1.alloc (.cells #[.pointer (some ⟨T, 0, none⟩)] 69)).heap.size = w1.heap.size + 1 := by simp
  generalize w1.alloc (.cells #[.pointer (some ⟨T, 0, none⟩)] 69) = w2 at R1 hM2 hs2 ⊢
  refine (callsIn_wide.2 (chunk43 p 0 cap 2 (by omega) w2)).mono ?_
  rintro e w3 ⟨rfl, hw3⟩
  have hb3 : Below w2.heap.size w2 w3 := by rw [← hw3]; exact ((Below.refl _ _).alloc (Nat.le_refl _) _).alloc (by simp) _
  have hx3 : Boxed w3 w2.heap.size 28 (.slice p 0 cap) := by rw [← hw3]; exact (Boxed.new _ _ _).alloc _
  rw [hs2] at hx3
  have hs3 := hb3.size
  have R3 := R1.later hb3
  have hM3 := (hb3.block M (Array.getElem?_eq_some_iff.1 hM2).1).trans hM2
  clear hw3 R1 hM2 hb3 hb2 a0 a1 a2 hT1 hM1
  gi_wp2
  refine range_law 54 #[.pointer (some ⟨w1.heap.size + 1, 0, none⟩), .pointer (some ⟨w1.heap.size + 1 + 1, 0, none⟩)] rfl ent54 (fun fn => ?_)
  generalize hr : (Obj.loop _) = rec
  have hb4 : Below w3.heap.size w3 ((w3.alloc (.deferred (some []))).alloc rec) := ((Below.refl _ _).alloc (Nat.le_refl _) _).alloc (by simp) _
  refine (chunk54none _ (w1.heap.size + 1) _ p cap 2 _ ((hb4.block _ hx3.lt).trans hx3)).mono ?_
  rintro e w4 ⟨rfl, rfl⟩
  refine ⟨⟨_, rfl⟩, heap_new (w3.alloc (.deferred (some []))) rec _ (by simp), ?_⟩
  clear hr
  have hd4 : ((w3.alloc (.deferred (some []))).alloc rec).heap[w3.heap.size]? = some (.deferred (some [])) := (heap_old (w3.alloc (.deferred (some []))) rec _ (by simp)).trans (heap_new w3 _ _ rfl)
  have R4 := R3.later hb4
  have hM4 := (hb4.block M (Array.getElem?_eq_some_iff.1 hM3).1).trans hM3
  have hn3 := R3.below.size
  have l1 := R3.b1.lt
  have l2 := R3.b2.lt
  have l6 := R3.b6.lt
  have lT := (Array.getElem?_eq_some_iff.1 R3.tab).1
  have lM := (Array.getElem?_eq_some_iff.1 hM3).1
  have hs4 : ((w3.alloc (.deferred (some []))).alloc rec).heap.size = w3.heap.size + 2 := by simp
  generalize (w3.alloc (.deferred (some []))).alloc rec = w4 at R4 hM4 hd4 hs4 ⊢
  have Q5 : ∀ o, RS w T w1.heap.size _ (w4.putObj (w3.heap.size + 1) o) := fun o => R4.same (putObj_below R4.below (by omega) o) fun k hk => World.putObj_heap_other (by omega)
  have hM5' : ∀ o, (w4.putObj (w3.heap.size + 1) o).heap[M]? = some (.map #[] 0) := fun o => (World.putObj_heap_other (by omega)).trans hM4
  have hd5' : ∀ o, (w4.putObj (w3.heap.size + 1) o).heap[w3.heap.size]? = some (.deferred (some [])) := fun o => (World.putObj_heap_other (by omega)).trans hd4
  have hs5' : ∀ o, (w4.putObj (w3.heap.size + 1) o).heap.size = w3.heap.size + 2 := fun o => by simp [hs4]
  generalize (Obj.loop _) = rec2
  have R5 := Q5 rec2
  have hM5 := hM5' rec2
  have hd5 := hd5' rec2
  have hs5 := hs5' rec2
  generalize w4.putObj (w3.heap.size + 1) rec2 = w5 at R5 hM5 hd5 hs5 ⊢
  dsimp only [List.cons_append, List.nil_append]
  clear R4 hM4 hd4 hs4 R3 hM3 hb4 hx3 Q5 hM5' hd5' hs5'
  have x6 := R5.b6.cell
  gi_wp2_with (fail)
  refine ⟨trivial, rfl, ?_⟩
  refine (callsIn_wide.2 (snapshot46hash T M 0 w5 _ _ _ _ _ R5.tab hM5)).mono ?_
  rintro e w6 ⟨rfl, hb6⟩
  have R6 := R5.later hb6
  have hd6 := (hb6.block _ (by omega)).trans hd5
  have hs6 := hb6.size
  clear R5 hM5 hd5 hb6 x6
  gi_wp2_with (fail)
  refine ⟨trivial, rfl, ?_⟩
  refine (callsIn_wide.2 (equal45 (.slice none 0 0) (.slice p 0 cap) ⟨#[]⟩ w6 (conv_nil _ _ _) (hq _))).mono ?_
  rintro e w7 ⟨rfl, rfl⟩
  have x1 := R6.b1.cell
  have x2 := R6.b2.cell
  have x6 := R6.b6.cell
  have f1 := R6.b1.frozen
  have f2 := R6.b2.frozen
  gi_wp2_with (fail)
  have q1 : Boxed ((w6.setCell ⟨w.heap.size + 1, 0, none⟩ (.pointer (some ⟨T, 0, none⟩))).setCell ⟨w.heap.size + 1 + 1, 0, none⟩ (.int .i64 0)) (w.heap.size + 1) 69 (.pointer (some ⟨T, 0, none⟩)) := (Below.heap_setCell _ _ _ _ (by show _ ≠ w.heap.size + 1 + 1; omega)).trans (R6.b1.set _)
  have q2 : Boxed ((w6.setCell ⟨w.heap.size + 1, 0, none⟩ (.pointer (some ⟨T, 0, none⟩))).setCell ⟨w.heap.size + 1 + 1, 0, none⟩ (.int .i64 0)) (w.heap.size + 1 + 1) 38 (.int .i64 0) := Boxed.set _ (show Boxed _ _ 38 _ from (Below.heap_setCell _ _ _ _ (by show _ ≠ w.heap.size + 1; omega)).trans R6.b2)
  have qb : Below w.heap.size w ((w6.setCell ⟨w.heap.size + 1, 0, none⟩ (.pointer (some ⟨T, 0, none⟩))).setCell ⟨w.heap.size + 1 + 1, 0, none⟩ (.int .i64 0)) := (R6.below.setCell (by show _ ≤ w.heap.size + 1; omega) _).setCell (by show _ ≤ w.heap.size + 1 + 1; omega) _
  have qd : ((w6.setCell ⟨w.heap.size + 1, 0, none⟩ (.pointer (some ⟨T, 0, none⟩))).setCell ⟨w.heap.size + 1 + 1, 0, none⟩ (.int .i64 0)).heap[w3.heap.size]? = some (.deferred (some [])) :=
    (Below.heap_setCell _ _ _ _ (by show w3.heap.size ≠ w.heap.size + 1 + 1; omega)).trans ((Below.heap_setCell _ _ _ _ (by show w3.heap.size ≠ w.heap.size + 1; omega)).trans hd6)
  generalize (w6.setCell ⟨w.heap.size + 1, 0, none⟩ (.pointer (some ⟨T, 0, none⟩))).setCell ⟨w.heap.size + 1 + 1, 0, none⟩ (.int .i64 0) = w8 at q1 q2 qb qd ⊢
  refine ⟨by simp, .inl ⟨_, _, rfl, run_takeDeferred qd, ?_⟩⟩
  refine ⟨_, results_cells2 rfl _ _ ⟨w.heap.size + 1, 0, none⟩ ⟨w.heap.size + 1 + 1, 0, none⟩ _ _ rfl rfl (load69 _ _ _ ((World.putObj_heap_other (by omega)).trans q1)) (load38 _ _ _ ((World.putObj_heap_other (by omega)).trans q2)), T, rfl, putObj_below qb (by omega) _⟩
end Go.Proofs.YtfhjffkcobmkaaaGreat
