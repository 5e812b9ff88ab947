/- Restore of a cache of two entries. -/
import Derived.WalkKit
import Derived.Lib.Hide
import Derived.WalkLawsBesides
import Derived.WalkSpells
import Derived.BigQuiet
import Derived.Deep.QuietTactic
import Derived.Handy
import Derived.RangeFuncBox
import Derived.Shelf.Abstract
import Derived.Deep.RegionWith
import Derived.Deep.RegionHeld3
import Derived.StillTailTactics
import Derived.Lib.AppendStr
import Derived.RangeFuncNested
import Derived.RangeFuncBound
import Derived.RangeFuncCalls
import Derived.RangeFuncLeaves
import Derived.Shelf.AbstractIn
import Derived.Shelf.RegionOpen
import Derived.OwnWalkIn
import Derived.TacticsInMore
import Derived.LoopNIn
import Derived.LoopIn
import Derived.LaidEqlPtr
import Derived.Lib.Builder
import Derived.Test.YtfhjffkcobmkaaaGreatD2
set_option linter.unusedVariables false
set_option linter.unusedSimpArgs false
namespace Go.Proofs.YtfhjffkcobmkaaaGreat
open Go.RowKit
attribute [local go_sem] Oper.semAt_some
attribute [local irreducible] wpStill
theorem noKey_one (ka kb : UInt8) (h : ka ≠ kb) (v : Value) (n : Nat) : NoKey (#[].push ⟨.string (One ka), v, n⟩) (One kb) := by
  have h1 : One ka ≠ One kb := fun e => h (by simpa [One] using e)
  have h2 : One kb ≠ One ka := fun e => h1 e.symm
  have h3 : (One kb == One ka) = false := by show ((One kb).data == (One ka).data) = false; simp [One]; exact fun e => h e.symm
  simp [NoKey, Instr.findNow, Instr.sameNow, h3]
/-- What lies still while Restore's loop runs; ob is the loop's record -/
structure RL (w : World) (T L r6 d3 S o cap : Nat) (c : UInt8) (ob : Obj) (W : World) : Prop where
  rs : RS w T r6 (tabCells (One c) 2 L) W
  b0 : W.heap[w.heap.size]? = some (.cells (mapCells (One c) 3 1 1 2) 33 (0, 0))
  bB : Boxed W (r6 + 1) 28 (.slice (some ⟨S, o, none⟩) 4 cap)
  bC : Boxed W (r6 + 1 + 1) 3 (.int .i64 2)
  bd : W.heap[d3]? = some (.deferred (some []))
  bl : W.heap[d3 + 1]? = some ob
def RF (w : World) (T r6 d3 : Nat) (k : Nat) : Prop := k = w.heap.size ∨ k = w.heap.size + 1 ∨ k = w.heap.size + 1 + 1 ∨ k = r6 ∨ k = T ∨ k = r6 + 1 ∨ k = r6 + 1 + 1 ∨ k = d3
theorem RL.same {w : World} {T L r6 d3 S o cap : Nat} {c : UInt8} {ob ob' : Obj} {W W' : World} (h : RL w T L r6 d3 S o cap c ob W) (hb : Below w.heap.size w W') (hk : ∀ k, RF w T r6 d3 k → W'.heap[k]? = W.heap[k]?) (hl : W'.heap[d3 + 1]? = some ob') :
    RL w T L r6 d3 S o cap c ob' W' :=
  ⟨h.rs.same hb fun k hk2 => hk k (by rcases hk2 with rfl | rfl | rfl | rfl <;> simp [RF]), (hk _ (by simp [RF])).trans h.b0, (hk _ (by simp [RF])).trans h.bB, (hk _ (by simp [RF])).trans h.bC, (hk _ (by simp [RF])).trans h.bd, hl⟩
theorem RL.put {w : World} {T L r6 d3 S o cap : Nat} {c : UInt8} {ob : Obj} {W : World} (h : RL w T L r6 d3 S o cap c ob W) (hN : w.heap.size ≤ d3) (hne : ¬ RF w T r6 d3 (d3 + 1)) (ob' : Obj) : RL w T L r6 d3 S o cap c ob' (W.putObj (d3 + 1) ob') :=
  h.same (putObj_below h.rs.below (by omega) _) (fun k hk => World.putObj_heap_other (by rintro rfl; exact hne hk)) (World.putObj_heap_same (Array.getElem?_eq_some_iff.1 h.bl).1)
theorem RL.turns {w : World} {T L r6 d3 S o cap : Nat} {c : UInt8} {ob : Obj} {W W' : World} {Z : Nat → Prop} (h : RL w T L r6 d3 S o cap c ob W) (ht : Turns Z W W') (hZ : ∀ k, Z k → w.heap.size ≤ k ∧ ¬ RF w T r6 d3 k ∧ k ≠ d3 + 1) : RL w T L r6 d3 S o cap c ob W' := by
  have hs := h.rs.below.size
  have l0 := (Array.getElem?_eq_some_iff.1 h.b0).1
  have l1 := h.rs.b1.lt
  have l2 := h.rs.b2.lt
  have l6 := h.rs.b6.lt
  have lT := (Array.getElem?_eq_some_iff.1 h.rs.tab).1
  have lB := h.bB.lt
  have lC := h.bC.lt
  have ld := (Array.getElem?_eq_some_iff.1 h.bd).1
  have ll := (Array.getElem?_eq_some_iff.1 h.bl).1
  refine h.same (h.rs.below.trans ⟨ht.os, ht.tape, ht.output, ht.size, fun k hk => ht.block k (by omega) fun hz => by have := (hZ k hz).1; omega⟩) (fun k hk => ht.block k ?_ fun hz => (hZ k hz).2.1 hk) ((ht.block _ ll fun hz => (hZ _ hz).2.2 rfl).trans h.bl)
  rcases hk with rfl | rfl | rfl | rfl | rfl | rfl | rfl | rfl <;> assumption
set_option maxHeartbeats 1000000 in
set_option maxRecDepth 100000 in
theorem restore25lru (c : UInt8) (hc : Letter c) (S o cap : Nat) (ka va kb vb : UInt8) (hab : ka ≠ kb) (hcap : 4 ≤ cap) (hcm : cap ≤ maxLen) (w : World)
    (hdata : ∀ j u, ([ka, va, kb, vb].map u8)[j]? = some u → w.cell? ⟨S, o + j, none⟩ = some u) :
    Calls Tryz.prog 25 #[.agg (mapCells (One c) 3 1 1 2), .slice (some ⟨S, o, none⟩) 4 cap] w fun e W => ∃ T, e = .returned (.tuple #[.pointer (some ⟨T, 0, none⟩), .int .i64 0]) ∧ Below w.heap.size w W := by
  refine (callsIn_wide (n := 0)).1 ?_
  refine callsIn_of_wp_marks Tryz.func25 rfl trivial ?_
  simp only [Tryz.ntmps25, List.size_toArray, List.length_cons, List.length_nil, Nat.reduceAdd, Nat.reduceSub, Array.replicate_succ, Array.replicate_zero, List.push_toArray, List.append_toArray, List.nil_append, List.cons_append]
  have hn := fun W => new42lru c hc 1 1 2 ⟨by decide, by decide, by decide, by decide, by decide, by decide, by decide, by decide⟩ W
  have hSl : S < w.heap.size := World.block_lt_of_cell? w _ (hdata 0 (u8 ka) rfl)
  have HD := Lib.hid hdata
  clear hdata
  unfold mapCells at hn ⊢
  gi_wp2_with (fail)
  refine ⟨trivial, rfl, ?_⟩
  generalize hwa : ((w.alloc _).alloc _).alloc _ = wa
  have hba : Below w.heap.size w wa := by rw [← hwa]; exact (((Below.refl _ _).alloc (Nat.le_refl _) _).alloc (by simp) _).alloc (by simp; omega) _
  have hsa : wa.heap.size = w.heap.size + 3 := by rw [← hwa]; simp
  have a0 : wa.heap[w.heap.size]? = some (.cells (mapCells (One c) 3 1 1 2) 33 (0, 0)) := by rw [← hwa]; exact (heap_old _ _ _ (by simp; omega)).trans ((heap_old _ _ _ (by simp)).trans (heap_new _ _ _ rfl))
  have a1 : Boxed wa (w.heap.size + 1) 69 (.pointer none) := by rw [← hwa]; exact (heap_old _ _ _ (by simp)).trans (heap_new _ _ _ (by simp))
  have a2 : Boxed wa (w.heap.size + 1 + 1) 38 (.int .i64 0) := by rw [← hwa]; exact heap_new _ _ _ (by simp)
  clear hwa
  refine (callsIn_wide.2 (hn wa)).mono ?_
  rintro e w1 ⟨T, L, M, rfl, hb1, hT, hL, hM, hT1, hL1, hM1⟩
  have hs1 := hb1.size
  have a0 := (hb1.block _ (by omega)).trans a0
  have a1 : Boxed w1 (w.heap.size + 1) 69 _ := (hb1.block _ (by omega)).trans a1
  have a2 : Boxed w1 (w.heap.size + 1 + 1) 38 _ := (hb1.block _ (by omega)).trans a2
  have hb2 := hba.trans (hb1.mono (by omega))
  clear hn hba hb1
  obtain ⟨z0, z1, z2, z3, z4⟩ := cells5 a0
  have hl0 : w.heap.size < w1.heap.size := by omega
  have hl1 : w.heap.size + 1 < w1.heap.size := by omega
  have hl2 : w.heap.size + 1 + 1 < w1.heap.size := by omega
  have hlT := (Array.getElem?_eq_some_iff.1 hT1).1
  have hlM := (Array.getElem?_eq_some_iff.1 hM1).1
  have hlL := (Array.getElem?_eq_some_iff.1 hL1).1
  have hs1 := Lib.hid hs1
  have hsa := Lib.hid hsa
  have hT := Lib.hid hT
  have hL := Lib.hid hL
  have hM := Lib.hid hM
  have x1 := a1.cell
  have x2 := a2.cell
  have f1 := a1.frozen
  have f2 := a2.frozen
  gi_wp2_with (fail)
  refine ⟨trivial, rfl, ?_⟩
  clear z0 z1 z2 z3 z4 x1 x2 f1 f2
  have hL1' : w1.heap[L]? = _ := hL1
  have R1 : RS w T w1.heap.size (tabCells (One c) 2 L) (w1.alloc (.cells #[.pointer (some ⟨T, 0, none⟩)] 69)) := ⟨hb2.alloc (by omega) _, a1.alloc _, a2.alloc _, Boxed.new _ _ _, (heap_old _ _ _ hlT).trans hT1⟩
  have hM2 : (w1.alloc (.cells #[.pointer (some ⟨T, 0, none⟩)] 69)).heap[M]? = some (.map #[] 0) := (heap_old _ _ _ hlM).trans hM1
  have hL2 : (w1.alloc (.cells #[.pointer (some ⟨T, 0, none⟩)] 69)).heap[L]? = _ := (heap_old _ _ _ hlL).trans hL1
  have hz2 : (w1.alloc (.cells #[.pointer (some ⟨T, 0, none⟩)] 69)).heap[w.heap.size]? = _ := (heap_old _ _ _ hl0).trans a0
  have hs2 : (w1.alloc (.cells #[.pointer (some ⟨T, 0, none⟩)] 69)).heap.size = w1.heap.size + 1 := by simp
  have hTL : T ≠ L := by rintro rfl; have := hT1.symm.trans hL1; simp at this
  have hTM : T ≠ M := by rintro rfl; have := hT1.symm.trans hM1; simp at this
  have hLM : L ≠ M := by rintro rfl; have := hL1.symm.trans hM1; simp at this
  generalize w1.alloc (.cells #[.pointer (some ⟨T, 0, none⟩)] 69) = w2 at R1 hM2 hL2 hz2 hs2 ⊢
  refine (callsIn_wide.2 (chunk43 (some ⟨S, o, none⟩) 4 cap 2 (by omega) w2)).mono ?_
  rintro e w3 ⟨rfl, hw3⟩
  have hb3 : Below w2.heap.size w2 w3 := by rw [← hw3]; exact ((Below.refl _ _).alloc (Nat.le_refl _) _).alloc (by simp) _
  have hx3 : Boxed w3 w2.heap.size 28 (.slice (some ⟨S, o, none⟩) 4 cap) := by rw [← hw3]; exact (Boxed.new _ _ _).alloc _
  have hy3 : Boxed w3 (w2.heap.size + 1) 3 (.int .i64 2) := by rw [← hw3]; exact heap_new _ _ _ (by simp)
  rw [hs2] at hx3 hy3
  have hs3 : w3.heap.size = w2.heap.size + 2 := by rw [← hw3]; simp
  have R3 := R1.later hb3
  have hM3 := (hb3.block M (Array.getElem?_eq_some_iff.1 hM2).1).trans hM2
  have hL3 := (hb3.block L (Array.getElem?_eq_some_iff.1 hL2).1).trans hL2
  have hz3 := (hb3.block _ (Array.getElem?_eq_some_iff.1 hz2).1).trans hz2
  clear hw3 R1 hM2 hL2 hz2 hb3 hb2 a0 a1 a2 hT1 hM1 hL1 hL1'
  have hs3 := Lib.hid hs3
  gi_wp2
  refine range_law 54 #[.pointer (some ⟨w1.heap.size + 1, 0, none⟩), .pointer (some ⟨w1.heap.size + 1 + 1, 0, none⟩)] rfl ent54 (fun fn => ?_)
  generalize hr : (Loop.mk _ _ _ _ _ _ _ _) = r
  have hb4 : Below w3.heap.size w3 ((w3.alloc (.deferred (some []))).alloc (.loop r)) := ((Below.refl _ _).alloc (Nat.le_refl _) _).alloc (by simp) _
  have hd4 : ((w3.alloc (.deferred (some []))).alloc (.loop r)).heap[w3.heap.size]? = some (.deferred (some [])) := (heap_old (w3.alloc (.deferred (some []))) _ _ (by simp)).trans (heap_new w3 _ _ rfl)
  have hl4 : ((w3.alloc (.deferred (some []))).alloc (.loop r)).heap[w3.heap.size + 1]? = some (.loop r) := heap_new (w3.alloc (.deferred (some []))) _ _ (by simp)
  have S4 : RL w T L w1.heap.size w3.heap.size S o cap c (.loop r) ((w3.alloc (.deferred (some []))).alloc (.loop r)) :=
    ⟨R3.later hb4, (hb4.block _ (Array.getElem?_eq_some_iff.1 hz3).1).trans hz3, (hb4.block _ hx3.lt).trans hx3, (hb4.block _ hy3.lt).trans hy3, hd4, hl4⟩
  have hM4 := (hb4.block M (Array.getElem?_eq_some_iff.1 hM3).1).trans hM3
  have hL4 := (hb4.block L (Array.getElem?_eq_some_iff.1 hL3).1).trans hL3
  clear hb4 hd4 hl4 R3 hM3 hL3 hz3 hx3 hy3
  generalize (w3.alloc (.deferred (some []))).alloc (.loop r) = w4 at S4 hM4 hL4 ⊢
  have hs3 := hs3.out
  have nL : w.heap.size ≤ L ∧ ¬ RF w T w1.heap.size w3.heap.size L ∧ L ≠ w3.heap.size + 1 := by
    have h1 := hsa.out; have h2 := hL.out
    refine ⟨by omega, ?_, by omega⟩
    unfold RF; omega
  have nM : w.heap.size ≤ M ∧ ¬ RF w T w1.heap.size w3.heap.size M ∧ M ≠ w3.heap.size + 1 := by
    have h1 := hsa.out; have h2 := hM.out
    refine ⟨by omega, ?_, by omega⟩
    unfold RF; omega
  have nr : ¬ RF w T w1.heap.size w3.heap.size (w3.heap.size + 1) := by unfold RF; omega
  have nbig : ∀ k, w3.heap.size + 2 ≤ k → w.heap.size ≤ k ∧ ¬ RF w T w1.heap.size w3.heap.size k ∧ k ≠ w3.heap.size + 1 := fun k hk => by
    refine ⟨by omega, ?_, by omega⟩
    unfold RF; omega
  have G : ∀ (J J' : Obj → World → Prop) (oo : Nat), (∀ ob ob' W, J ob W → J ob' (W.putObj (w3.heap.size + 1) ob')) → (∀ ob ob' W, J' ob W → J' ob' (W.putObj (w3.heap.size + 1) ob')) → (∀ ob W, J ob W → J ob W.drew) →
      (∀ ob W, J ob W → RL w T L w1.heap.size w3.heap.size S o cap c ob W) → (∀ ob W, J' ob W → RL w T L w1.heap.size w3.heap.size S o cap c ob W) →
      (∀ ob W, J ob W → Calls Tryz.prog 44 #[.pointer (some ⟨T, 0, none⟩), .slice (some ⟨S, oo, none⟩) 1 2, .slice (some ⟨S, oo + 1, none⟩) 1 1, .int .i64 0] W fun e W' => e = .returned (.int .i64 0) ∧ J' ob W') →
      ∀ W, J (.loop r) W → YieldAt Fence.wide 0 Tryz.prog (w3.heap.size + 1) #[.slice (some ⟨S, oo, none⟩) 2 2] W fun e W' => e = .returned (.bool true) ∧ J' (.loop r) W' := by
    intro J J' oo hp hp' hd hR hR' hu W h
    have hRW := hR _ W h
    clear S4 hM4 hL4 HD
    have hmix : Tryz.prog.follows .mixedOrders = true := by kernel_rfl
    obtain ⟨Rr, hRr⟩ : ∃ Rr, Rr = J' (.loop r) := ⟨_, rfl⟩
    rw [← hRr]
    refine round_law' hRW.bl (by rw [← hr]) (by rw [← hr]; rfl) (fun K hK => ?_)
    have h3 := hRW.bl
    have HRr := Lib.hid hRr
    have Hr := Lib.hid hr
    clear hRr
    have HP := Lib.hid (fun ob' => hp _ ob' W h)
    have HP' := Lib.hid hp'
    have HDr := Lib.hid hd
    have HR' := Lib.hid hR
    have HR2 := Lib.hid hR'
    have HU := Lib.hid hu
    clear hp hp' hd hR hR' hu
    rw [← hr] at h3 hK ⊢
    clear hr
    dsimp only at hK ⊢
    have HK := Lib.hid hK
    clear hK
    have H3 := Lib.hid h3
    clear h3
    simp only [List.size_toArray, List.zip_toArray, List.zip_cons_cons, List.zip_nil_left, List.zip_nil_right, Array.zip, List.foldl_toArray, List.foldl_cons, List.foldl_nil, List.setIfInBounds_toArray, List.set_cons_succ, List.set_cons_zero]
    gi_wp2
    refine HK.out _ _ H3.out ?_
    clear H3 HK K h hRW
    generalize ho : (Obj.loop _) = ob
    have HO := Lib.hid ho
    clear ho
    have hj := HP.out ob
    generalize W.putObj (w3.heap.size + 1) ob = W1 at hj ⊢
    change Code.wpIn (Fence.wide.inRound (w3.heap.size + 1)) _ _ _ _ _ _
    gi_wp2_with (fail)
    refine wpIn_region_tail (ro := some (w3.heap.size + 1)) 9 hmix (by kernel_rfl) ?_
    have hjd := HDr.out _ _ hj
    generalize W1.drew = wd at hjd ⊢
    have RW := HR'.out _ _ hjd
    have x6 := RW.rs.b6.cell
    obtain ⟨z0, z1, z2, z3, z4⟩ := cells5 RW.b0
    have hu := HU.out _ _ hjd
    clear RW hj
    simp only [List.take_succ_cons, List.take_zero, List.drop_succ_cons, List.drop_zero]
    repeat still_step
    refine wpStill_nil ?_
    change wpListIn (Fence.wide.inRound (w3.heap.size + 1)) _ _ _ _ _ _ _
    clear x6 z0 z1 z2 z3 z4
    have hu := Lib.hid hu
    gi_wp2_with (fail)
    refine ⟨trivial, rfl, ?_⟩
    refine (show CallsIn (Fence.wide.inRound (w3.heap.size + 1)) _ _ _ _ _ _ from callsIn_wide.2 hu.out).mono ?_
    rintro e W2 ⟨rfl, hj2⟩
    gi_wp2
    have RW2 := HR2.out _ _ hj2
    refine ⟨_, RW2.bl.trans (congrArg some HO.out.symm), ?_⟩
    have hfin := HP'.out _ (.loop r) _ hj2
    rw [HRr.out]
    rw [← Hr.out] at hfin ⊢
    exact hfin
  obtain ⟨J0, eJ0⟩ : ∃ J0 : Obj → World → Prop, J0 = fun ob W => RL w T L w1.heap.size w3.heap.size S o cap c ob W ∧ LAt W L M 2 ⟨L, 1, none⟩ ⟨L, 1, none⟩ ∧ W.heap[M]? = some (.map #[] 0) := ⟨_, rfl⟩
  obtain ⟨J1, eJ1⟩ : ∃ J1 : Obj → World → Prop, J1 = fun ob W => RL w T L w1.heap.size w3.heap.size S o cap c ob W ∧ ∃ X E D cp cur, LAt W L M 2 ⟨X, 0, none⟩ ⟨X, 0, none⟩ ∧
    W.heap[X]? = some (.cells (linkCells (One ka) E (.pointer (some ⟨L, 1, none⟩)) (.pointer (some ⟨L, 1, none⟩))) 124 (0, 0)) ∧ W.heap[M]? = some (.map (#[].push ⟨.string (One ka), .pointer (some ⟨X, 0, none⟩), 0⟩) (0 + 1)) ∧
    W.heap[E]? = some (.cells #[.string (One ka), .slice (some ⟨D, 0, none⟩) 1 cp] 111 (0, 0)) ∧ W.heap[D]? = some (.cells cur 5 (0, 0)) ∧ cur[0]? = some (u8 va) ∧ w3.heap.size + 2 ≤ X ∧ w3.heap.size + 2 ≤ E ∧ w3.heap.size + 2 ≤ D := ⟨_, rfl⟩
  obtain ⟨J2, eJ2⟩ : ∃ J2 : Obj → World → Prop, J2 = fun ob W => RL w T L w1.heap.size w3.heap.size S o cap c ob W ∧ ∃ X1 X2 E1 E2 D1 D2 cp1 cp2 cur1 cur2, Pair W L M 2 X1 X2 E1 E2 (One ka) (One kb) ∧
    W.heap[E1]? = some (.cells #[.string (One ka), .slice (some ⟨D1, 0, none⟩) 1 cp1] 111 (0, 0)) ∧ W.heap[E2]? = some (.cells #[.string (One kb), .slice (some ⟨D2, 0, none⟩) 1 cp2] 111 (0, 0)) ∧
    W.heap[D1]? = some (.cells cur1 5 (0, 0)) ∧ W.heap[D2]? = some (.cells cur2 5 (0, 0)) ∧ cur1[0]? = some (u8 va) ∧ cur2[0]? = some (u8 vb) ∧
    (w3.heap.size + 2 ≤ X1 ∧ w3.heap.size + 2 ≤ X2 ∧ w3.heap.size + 2 ≤ E1 ∧ w3.heap.size + 2 ≤ E2 ∧ w3.heap.size + 2 ≤ D1 ∧ w3.heap.size + 2 ≤ D2) := ⟨_, rfl⟩
  have hN3 : w.heap.size ≤ w3.heap.size := by omega
  have P0 : ∀ ob ob' W, J0 ob W → J0 ob' (W.putObj (w3.heap.size + 1) ob') := by
    subst eJ0
    rintro ob ob' W ⟨h, hl, hm⟩
    exact ⟨h.put hN3 nr ob', ⟨(World.putObj_heap_other (by have := nL.2.2; omega)).trans hl.h⟩, (World.putObj_heap_other (by have := nM.2.2; omega)).trans hm⟩
  have P1 : ∀ ob ob' W, J1 ob W → J1 ob' (W.putObj (w3.heap.size + 1) ob') := by
    subst eJ1
    rintro ob ob' W ⟨h, X, E, D, cp, cur, hl, hx, hm, he, hd, hc0, b1, b2, b3⟩
    exact ⟨h.put hN3 nr ob', X, E, D, cp, cur, ⟨(World.putObj_heap_other (by have := nL.2.2; omega)).trans hl.h⟩, (World.putObj_heap_other (by omega)).trans hx, (World.putObj_heap_other (by have := nM.2.2; omega)).trans hm,
      (World.putObj_heap_other (by omega)).trans he, (World.putObj_heap_other (by omega)).trans hd, hc0, b1, b2, b3⟩
  have P2 : ∀ ob ob' W, J2 ob W → J2 ob' (W.putObj (w3.heap.size + 1) ob') := by
    subst eJ2
    rintro ob ob' W ⟨h, X1, X2, E1, E2, D1, D2, cp1, cp2, cur1, cur2, hp, he1, he2, hd1, hd2, hc1, hc2, b1, b2, b3, b4, b5, b6⟩
    exact ⟨h.put hN3 nr ob', X1, X2, E1, E2, D1, D2, cp1, cp2, cur1, cur2, ⟨⟨(World.putObj_heap_other (by have := nL.2.2; omega)).trans hp.list.h⟩, (World.putObj_heap_other (by omega)).trans hp.one, (World.putObj_heap_other (by omega)).trans hp.two⟩,
      (World.putObj_heap_other (by omega)).trans he1, (World.putObj_heap_other (by omega)).trans he2, (World.putObj_heap_other (by omega)).trans hd1, (World.putObj_heap_other (by omega)).trans hd2, hc1, hc2, b1, b2, b3, b4, b5, b6⟩
  have dr : ∀ ob W, RL w T L w1.heap.size w3.heap.size S o cap c ob W → RL w T L w1.heap.size w3.heap.size S o cap c ob W.drew := fun ob W h => h.same h.rs.below.drew (fun _ _ => rfl) h.bl
  have D0 : ∀ ob W, J0 ob W → J0 ob W.drew := by
    subst eJ0
    rintro ob W ⟨h, hl, hm⟩
    exact ⟨dr _ _ h, ⟨hl.h⟩, hm⟩
  have D1 : ∀ ob W, J1 ob W → J1 ob W.drew := by
    subst eJ1
    rintro ob W ⟨h, X, E, D, cp, cur, hl, r⟩
    exact ⟨dr _ _ h, X, E, D, cp, cur, ⟨hl.h⟩, r⟩
  have D2 : ∀ ob W, J2 ob W → J2 ob W.drew := by
    subst eJ2
    rintro ob W ⟨h, X1, X2, E1, E2, D1, D2, cp1, cp2, cur1, cur2, hp, r⟩
    exact ⟨dr _ _ h, X1, X2, E1, E2, D1, D2, cp1, cp2, cur1, cur2, ⟨⟨hp.list.h⟩, hp.one, hp.two⟩, r⟩
  have cellS : ∀ ob W, RL w T L w1.heap.size w3.heap.size S o cap c ob W → ∀ j u, ([ka, va, kb, vb].map u8)[j]? = some u → W.cell? ⟨S, o + j, none⟩ = some u := fun ob W h j u hj => (h.rs.below.cell (p := ⟨S, o + j, none⟩) hSl).trans (HD.out j u hj)
  have U0 : ∀ ob W, J0 ob W → Calls Tryz.prog 44 #[.pointer (some ⟨T, 0, none⟩), .slice (some ⟨S, o, none⟩) 1 2, .slice (some ⟨S, o + 1, none⟩) 1 1, .int .i64 0] W fun e W' => e = .returned (.int .i64 0) ∧ J1 ob W' := by
    subst eJ0 eJ1
    rintro ob W ⟨h, hl, hm⟩
    have lb := (Array.getElem?_eq_some_iff.1 h.bl).1
    refine (update44first T L M S o (o + 1) 2 1 0 ka va 2 2 (One c) #[] W h.rs.tab hl hm rfl (by decide) (cellS _ _ h 0 _ rfl) (cellS _ _ h 1 _ rfl)).mono ?_
    rintro e W' ⟨X, E, D, cp, cur, rfl, bX, hl', hx', hm', he', hd', hc', bE, bD, ht⟩
    exact ⟨rfl, h.turns ht (by rintro k (rfl | rfl) <;> assumption), X, E, D, cp, cur, hl', hx', hm', he', hd', hc', by omega, by omega, by omega⟩
  have U1 : ∀ ob W, J1 ob W → Calls Tryz.prog 44 #[.pointer (some ⟨T, 0, none⟩), .slice (some ⟨S, o + 2, none⟩) 1 2, .slice (some ⟨S, o + 2 + 1, none⟩) 1 1, .int .i64 0] W fun e W' => e = .returned (.int .i64 0) ∧ J2 ob W' := by
    subst eJ1 eJ2
    rintro ob W ⟨h, X, E, D, cp, cur, hl, hx, hm, he, hd, hc0, b1, b2, b3⟩
    have lb := (Array.getElem?_eq_some_iff.1 h.bl).1
    have lE := (Array.getElem?_eq_some_iff.1 he).1
    have lD := (Array.getElem?_eq_some_iff.1 hd).1
    have nL2 := nL.2.2
    have nM2 := nM.2.2
    have hEX : E ≠ X := by rintro rfl; have := he.symm.trans hx; simp at this
    have hEL : E ≠ L := by rintro rfl; have := he.symm.trans hl.h; simp at this
    have hEM : E ≠ M := by rintro rfl; have := he.symm.trans hm; simp at this
    have hDX : D ≠ X := by rintro rfl; have := hd.symm.trans hx; simp at this
    have hDL : D ≠ L := by rintro rfl; have := hd.symm.trans hl.h; simp at this
    have hDM : D ≠ M := by rintro rfl; have := hd.symm.trans hm; simp at this
    refine (update44more T L M X E S (o + 2) (o + 2 + 1) 2 1 1 kb vb 2 2 (One c) (One ka) ⟨L, 1, none⟩ ⟨X, 0, none⟩ (.pointer (some ⟨L, 1, none⟩)) _ W h.rs.tab hl hx hm (noKey_one ka kb hab _ _) (by simp) (cellS _ _ h 2 _ rfl) (cellS _ _ h 3 _ rfl)).mono ?_
    rintro e W' ⟨X2, E2, D2, cp2, cur2, rfl, bX, hl', hx', hy', hm', he', hd', hc', bE, bD, ht⟩
    refine ⟨rfl, h.turns ht ?_, X, X2, E, E2, D, D2, cp, cp2, cur, cur2, ⟨hl', hy', hx'⟩, (ht.block E lE (by rintro (h | h | h) <;> contradiction)).trans he, he', (ht.block D lD (by rintro (h | h | h) <;> contradiction)).trans hd, hd', hc0, hc', b1, by omega, b2, by omega, b3, by omega⟩
    rintro k (rfl | rfl | rfl)
    · exact nL
    · exact nM
    · exact nbig _ b1
  have B0 : ∀ ob W, J0 ob W → RL w T L w1.heap.size w3.heap.size S o cap c ob W := by subst eJ0; exact fun _ _ h => h.1
  have B1 : ∀ ob W, J1 ob W → RL w T L w1.heap.size w3.heap.size S o cap c ob W := by subst eJ1; exact fun _ _ h => h.1
  have B2 : ∀ ob W, J2 ob W → RL w T L w1.heap.size w3.heap.size S o cap c ob W := by subst eJ2; exact fun _ _ h => h.1
  have I0 : J0 (.loop r) w4 := by subst eJ0; exact ⟨S4, ⟨hL4⟩, hM4⟩
  have hcall := chunk54two (w3.heap.size + 1) (w1.heap.size + 1) (w1.heap.size + 1 + 1) S o cap (J0 (.loop r)) (J1 (.loop r)) (J2 (.loop r)) hcap hcm (D0 _) (D1 _) (D2 _)
    (fun W h => ⟨(B0 _ _ h).bB, (B0 _ _ h).bC⟩) (fun W h => ⟨(B1 _ _ h).bB, (B1 _ _ h).bC⟩) (fun W h => ⟨(B2 _ _ h).bB, (B2 _ _ h).bC⟩) (G J0 J1 o P0 P1 D0 B0 B1 U0) (G J1 J2 (o + 2) P1 P2 D1 B1 B2 U1) w4 I0
  refine hcall.mono ?_
  clear hcall G U0 U1 D0 D1 D2 dr P0 P1 I0 B0 B1 S4 hL4 hM4 eJ0 eJ1
  rintro e W ⟨rfl, hJ⟩
  refine ⟨⟨_, rfl⟩, (B2 _ _ hJ).bl, ?_⟩
  clear hr
  have hP := fun o => P2 _ o _ hJ
  generalize (Obj.loop _) = rec2
  have hP2 := hP rec2
  clear hP hJ P2
  generalize W.putObj (w3.heap.size + 1) rec2 = w5 at hP2 ⊢
  subst eJ2
  obtain ⟨R5, X1, X2, E1, E2, D1, D2, cp1, cp2, cur1, cur2, hp, he1, he2, hd1, hd2, hc1, hc2, -⟩ := hP2
  dsimp only [List.cons_append, List.nil_append]
  have CS := Lib.hid (cellS _ _ R5)
  clear cellS B2 nr nbig nL nM
  have x6 := R5.rs.b6.cell
  have hsn := Lib.hid (snapshot46lru T L M X1 X2 E1 E2 D1 D2 2 2 (One c) ka va kb vb cp1 cp2 cur1 cur2 w5 R5.rs.tab hp he1 he2 hd1 hd2 hc1 hc2)
  clear hp he1 he2 hd1 hd2 hc1 hc2
  gi_wp2_with (fail)
  refine ⟨trivial, rfl, ?_⟩
  refine (callsIn_wide.2 hsn.out).mono ?_
  rintro e w6 ⟨DD, cpD, rfl, hb6, hcD⟩
  have R6 := R5.rs.later hb6
  have hd6 := (hb6.block _ (Array.getElem?_eq_some_iff.1 R5.bd).1).trans R5.bd
  have hSw := (Nat.lt_of_lt_of_le hSl R5.rs.below.size)
  have CS6 : ∀ j u, ([ka, va, kb, vb].map u8)[j]? = some u → w6.cell? ⟨S, o + j, none⟩ = some u := fun j u hj => (hb6.cell (p := ⟨S, o + j, none⟩) hSw).trans (CS.out j u hj)
  have heq := Lib.hid (equal45 (.slice (some ⟨DD, 0, none⟩) 4 cpD) (.slice (some ⟨S, o, none⟩) 4 cap) ⟨[ka, va, kb, vb].toArray⟩ w6 (conv_row DD cpD [ka, va, kb, vb] w6 0 4 rfl (fun j u hj => by rw [Nat.zero_add]; exact hcD j u hj)) (conv_row S cap [ka, va, kb, vb] w6 o 4 rfl CS6))
  clear R5 hb6 x6 hcD hsn CS CS6
  gi_wp2_with (fail)
  refine ⟨trivial, rfl, ?_⟩
  refine (callsIn_wide.2 heq.out).mono ?_
  rintro e w7 ⟨rfl, rfl⟩
  clear heq
  have x1 := R6.b1.cell
  have x2 := R6.b2.cell
  have x6 := R6.b6.cell
  have f1 := R6.b1.frozen
  have f2 := R6.b2.frozen
  gi_wp2_with (fail)
  have q1 : Boxed ((w6.setCell ⟨w.heap.size + 1, 0, none⟩ (.pointer (some ⟨T, 0, none⟩))).setCell ⟨w.heap.size + 1 + 1, 0, none⟩ (.int .i64 0)) (w.heap.size + 1) 69 (.pointer (some ⟨T, 0, none⟩)) := (Below.heap_setCell _ _ _ _ (by show _ ≠ w.heap.size + 1 + 1; omega)).trans (R6.b1.set _)
  have q2 : Boxed ((w6.setCell ⟨w.heap.size + 1, 0, none⟩ (.pointer (some ⟨T, 0, none⟩))).setCell ⟨w.heap.size + 1 + 1, 0, none⟩ (.int .i64 0)) (w.heap.size + 1 + 1) 38 (.int .i64 0) := Boxed.set _ (show Boxed _ _ 38 _ from (Below.heap_setCell _ _ _ _ (by show _ ≠ w.heap.size + 1; omega)).trans R6.b2)
  have qb : Below w.heap.size w ((w6.setCell ⟨w.heap.size + 1, 0, none⟩ (.pointer (some ⟨T, 0, none⟩))).setCell ⟨w.heap.size + 1 + 1, 0, none⟩ (.int .i64 0)) := (R6.below.setCell (by show _ ≤ w.heap.size + 1; omega) _).setCell (by show _ ≤ w.heap.size + 1 + 1; omega) _
  have qd : ((w6.setCell ⟨w.heap.size + 1, 0, none⟩ (.pointer (some ⟨T, 0, none⟩))).setCell ⟨w.heap.size + 1 + 1, 0, none⟩ (.int .i64 0)).heap[w3.heap.size]? = some (.deferred (some [])) :=
    (Below.heap_setCell _ _ _ _ (by show w3.heap.size ≠ w.heap.size + 1 + 1; omega)).trans ((Below.heap_setCell _ _ _ _ (by show w3.heap.size ≠ w.heap.size + 1; omega)).trans hd6)
  generalize (w6.setCell ⟨w.heap.size + 1, 0, none⟩ (.pointer (some ⟨T, 0, none⟩))).setCell ⟨w.heap.size + 1 + 1, 0, none⟩ (.int .i64 0) = w8 at q1 q2 qb qd ⊢
  rw [show w3.heap.size = w1.heap.size + 1 + 2 by omega] at qd
  refine ⟨by simp, .inl ⟨_, _, rfl, run_takeDeferred qd, ?_⟩⟩
  refine ⟨_, results_cells2 rfl _ _ ⟨w.heap.size + 1, 0, none⟩ ⟨w.heap.size + 1 + 1, 0, none⟩ _ _ rfl rfl (load69 _ _ _ ((World.putObj_heap_other (by omega)).trans q1)) (load38 _ _ _ ((World.putObj_heap_other (by omega)).trans q2)), T, rfl, putObj_below qb (by omega) _⟩
end Go.Proofs.YtfhjffkcobmkaaaGreat
