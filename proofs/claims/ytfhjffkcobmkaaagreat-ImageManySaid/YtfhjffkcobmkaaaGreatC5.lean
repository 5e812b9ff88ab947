/- The table over a least-recently-used cache as an iterator. -/
import Derived.WalkKit
import Derived.Lib.Hide
import Derived.WalkLawsBesides
import Derived.WalkSpells
import Derived.BigQuiet
import Derived.Deep.QuietTactic
import Derived.Handy
import Derived.RangeFuncBox
import Derived.Shelf.Abstract
import Derived.Deep.RegionWith
import Derived.Deep.RegionHeld3
import Derived.StillTailTactics
import Derived.Lib.AppendStr
import Derived.RangeFuncNested
import Derived.RangeFuncBound
import Derived.RangeFuncCalls
import Derived.RangeFuncLeaves
import Derived.Shelf.AbstractIn
import Derived.Shelf.RegionOpen
import Derived.OwnWalkIn
import Derived.TacticsInMore
import Derived.LoopNIn
import Derived.LoopIn
import Derived.LaidEqlPtr
import Derived.Lib.Builder
import Derived.Test.YtfhjffkcobmkaaaGreatC4
set_option linter.unusedVariables false
set_option linter.unusedSimpArgs false
namespace Go.Proofs.YtfhjffkcobmkaaaGreat
open Go.RowKit
attribute [local go_sem] Oper.semAt_some
attribute [local irreducible] wpStill
theorem ent122 : ∀ (args : Array Value) (w : World), (callFunc 122 args).run Tryz.prog w = .ok (.enter 122 args) w := enters_of Tryz.func122 (by kernel_rfl) rfl
theorem all116 (p : Option Addr) (w : World) :
    Calls Tryz.prog 116 #[.agg #[.pointer p]] w fun e w' => e = .returned (.func (.func 122) #[] #[.pointer (some ⟨w.heap.size, 0, none⟩)]) ∧ w.alloc (.cells #[.pointer p] 106) = w' := by
  go_enter Tryz.func116, Tryz.ntmps116
  go_wp2
  go_ret
  exact ⟨rfl, rfl⟩
theorem meth116 (p : Option Addr) (w : World) : (method 295 106 (.agg #[.pointer p]) "swingbridge/table.all").run Tryz.prog w = .ok (116, .agg #[.pointer p]) w := by kernel_rfl
structure LayG (A : Nat) (o0 o1 : Obj) (r : Loop) (J : World → Prop) (W : World) : Prop where
  j : J W
  sz : A + 4 ≤ W.heap.size
  b0 : W.heap[A]? = some o0
  b1 : W.heap[A + 1]? = some o1
  b2 : W.heap[A + 2]? = some (.deferred (some []))
  b3 : W.heap[A + 3]? = some (.loop r)
theorem LayG.near {A B : Nat} {o0 o1 : Obj} {r : Loop} {J : World → Prop} {W W' : World} (h : LayG A o0 o1 r J W) (c : ∀ W W', J W → Near A B W W' → J W') (hn : Near (A + 4) B W W') : LayG A o0 o1 r J W' :=
  have hs := h.sz
  ⟨c _ _ h.j (hn.wider (by omega) (Nat.le_refl _)), Nat.le_trans h.sz hn.size, (hn.same _ (by omega) (by omega)).trans h.b0, (hn.same _ (by omega) (by omega)).trans h.b1, (hn.same _ (by omega) (by omega)).trans h.b2, (hn.same _ (by omega) (by omega)).trans h.b3⟩
set_option maxHeartbeats 1000000 in
set_option maxRecDepth 100000 in
theorem tabAll59lru (l1 tb T L M X1 X2 E1 E2 A : Nat) (m mx : Int) (s k1 k2 : ByteArray) (v1 v2 : Value) (J0 J1 J2 : World → Prop)
    (c0 : ∀ W W', J0 W → Near A (A + 8) W W' → J0 W') (c1 : ∀ W W', J1 W → Near A (A + 8) W W' → J1 W') (c2 : ∀ W W', J2 W → Near A (A + 8) W W' → J2 W')
    (t0 : ∀ W, J0 W → Pair W L M m X1 X2 E1 E2 k1 k2 ∧ W.heap[E1]? = some (.cells #[.string k1, v1] 111 (0, 0))) (t1 : ∀ W, J1 W → Pair W L M m X1 X2 E1 E2 k1 k2 ∧ W.heap[E2]? = some (.cells #[.string k2, v2] 111 (0, 0))) (t2 : ∀ W, J2 W → Pair W L M m X1 X2 E1 E2 k1 k2)
    (y1 : Yl A (A + 8) l1 #[.string k1, v1] J0 J1) (y2 : Yl A (A + 8) l1 #[.string k2, v2] J1 J2)
    (w : World) (hA : w.heap.size = A) (hT : w.heap[T]? = some (.cells (tabCells s mx L) 101 (0, 0))) (hb : Boxed w tb 69 (.pointer (some ⟨T, 0, none⟩))) (h0 : J0 w) :
    Calls Tryz.prog 59 #[.func (.yield l1) #[] #[], .pointer (some ⟨tb, 0, none⟩)] w fun e W => e = .returned (.tuple #[]) ∧ J2 W := by
  refine (callsIn_wide (n := 0)).1 ?_
  refine callsIn_of_wp_marks Tryz.func59 rfl trivial ?_
  simp only [Tryz.ntmps59, List.size_toArray, List.length_cons, List.length_nil, Nat.reduceAdd, Nat.reduceSub, Array.replicate_succ, Array.replicate_zero, List.push_toArray, List.append_toArray, List.nil_append, List.cons_append]
  subst hA
  obtain ⟨z0, z1, z2, z3, z4, z5⟩ := cells6 hT
  have hTl := (Array.getElem?_eq_some_iff.1 hT).1
  have hbl := hb.lt
  have hbc := hb.cell
  have hm := meth116 (some ⟨L, 0, none⟩)
  have hmix : Tryz.prog.follows .mixedOrders = true := by kernel_rfl
  have C0 := Lib.hid c0
  have C1 := Lib.hid c1
  have C2 := Lib.hid c2
  have T0 := Lib.hid t0
  have T1 := Lib.hid t1
  have T2 := Lib.hid t2
  have Y1 := Lib.hid y1
  have Y2 := Lib.hid y2
  clear c0 c1 c2 t0 t1 t2 y1 y2
  gi_wp2_with (refine ⟨trivial, rfl, ?_⟩; gi_at_call 116; refine (callsIn_wide.2 (all116 _ _)).mono ?_; rintro e w1 ⟨rfl, rfl⟩)
  clear z0 z1 z2 z3 z4 z5 hm hbc
  have hb0 : Near w.heap.size (w.heap.size + 8) w ((w.alloc (.cells #[.func (.yield l1) #[] #[]] 127)).alloc (.cells #[.pointer (some ⟨L, 0, none⟩)] 106)) := ((Near.refl _ _ _).alloc _).alloc _
  have hx0 : ((w.alloc (.cells #[.func (.yield l1) #[] #[]] 127)).alloc (.cells #[.pointer (some ⟨L, 0, none⟩)] 106)).heap[w.heap.size]? = some (.cells #[.func (.yield l1) #[] #[]] 127 (0, 0)) := (heap_old _ _ _ (by simp)).trans (heap_new _ _ _ rfl)
  have hx1 : ((w.alloc (.cells #[.func (.yield l1) #[] #[]] 127)).alloc (.cells #[.pointer (some ⟨L, 0, none⟩)] 106)).heap[w.heap.size + 1]? = some (.cells #[.pointer (some ⟨L, 0, none⟩)] 106 (0, 0)) := heap_new _ _ _ (by simp)
  have hsz : ((w.alloc (.cells #[.func (.yield l1) #[] #[]] 127)).alloc (.cells #[.pointer (some ⟨L, 0, none⟩)] 106)).heap.size = w.heap.size + 2 := by simp
  generalize hw1 : (w.alloc (.cells #[.func (.yield l1) #[] #[]] 127)).alloc (.cells #[.pointer (some ⟨L, 0, none⟩)] 106) = w1 at hb0 hx0 hx1 hsz
  clear hw1
  refine range_law 122 #[.pointer (some ⟨w.heap.size + 1, 0, none⟩)] rfl ent122 (fun fn => ?_)
  generalize hr : (Loop.mk _ _ _ _ _ _ _ _) = r
  have hb1 : Near w.heap.size (w.heap.size + 8) w ((w1.alloc (.deferred (some []))).alloc (.loop r)) := (hb0.alloc _).alloc _
  have e2 : ((w1.alloc (.deferred (some []))).alloc (.loop r)).heap[w.heap.size + 2]? = some (.deferred (some [])) := (heap_old _ _ _ (by simp; omega)).trans (heap_new _ _ _ (by omega))
  have e3 : ((w1.alloc (.deferred (some []))).alloc (.loop r)).heap[w.heap.size + 3]? = some (.loop r) := heap_new _ _ _ (by simp; omega)
  have e0 : ((w1.alloc (.deferred (some []))).alloc (.loop r)).heap[w.heap.size]? = some (.cells #[.func (.yield l1) #[] #[]] 127 (0, 0)) := ((heap_old _ _ _ (by simp; omega)).trans (heap_old _ _ _ (by omega))).trans hx0
  have e1 : ((w1.alloc (.deferred (some []))).alloc (.loop r)).heap[w.heap.size + 1]? = some (.cells #[.pointer (some ⟨L, 0, none⟩)] 106 (0, 0)) := ((heap_old _ _ _ (by simp; omega)).trans (heap_old _ _ _ (by omega))).trans hx1
  have e4 : ((w1.alloc (.deferred (some []))).alloc (.loop r)).heap.size = w.heap.size + 4 := by simp; omega
  generalize (w1.alloc (.deferred (some []))).alloc (.loop r) = w2 at hb1 e0 e1 e2 e3 e4
  have hz : w1.heap.size + 1 = w.heap.size + 3 := by omega
  simp only [hz]
  have G : ∀ (k : ByteArray) (E : Nat) (v : Value) (J J' : World → Prop), (∀ W W', J W → Near w.heap.size (w.heap.size + 8) W W' → J W') → (∀ W W', J' W → Near w.heap.size (w.heap.size + 8) W W' → J' W') →
      (∀ W, J W → W.heap[E]? = some (.cells #[.string k, v] 111 (0, 0))) →
      Yl w.heap.size (w.heap.size + 8) l1 #[.string k, v] J J' →
      Yl (w.heap.size + 4) (w.heap.size + 4 + 4) (w.heap.size + 3) #[.pointer (some ⟨E, 0, none⟩)] (LayG w.heap.size (.cells #[.func (.yield l1) #[] #[]] 127) (.cells #[.pointer (some ⟨L, 0, none⟩)] 106) r J)
        (LayG w.heap.size (.cells #[.func (.yield l1) #[] #[]] 127) (.cells #[.pointer (some ⟨L, 0, none⟩)] 106) r J') := by
    intro k E v J J' c c' te y W h hsW
    clear C0 C1 C2 T0 T1 T2 Y1 Y2 h0 hb1
    refine round_law' h.b3 (by rw [← hr]) (by rw [← hr]; rfl) (fun K hK => ?_)
    have g0 : ∀ o, (W.putObj (w.heap.size + 3) o).heap[w.heap.size]? = some (.cells #[.func (.yield l1) #[] #[]] 127 (0, 0)) := fun o => (World.putObj_heap_other (by omega)).trans h.b0
    have g1 : ∀ o, (W.putObj (w.heap.size + 3) o).heap[w.heap.size + 1]? = some (.cells #[.pointer (some ⟨L, 0, none⟩)] 106 (0, 0)) := fun o => (World.putObj_heap_other (by omega)).trans h.b1
    have g2 : ∀ o, (W.putObj (w.heap.size + 3) o).heap[w.heap.size + 2]? = some (.deferred (some [])) := fun o => (World.putObj_heap_other (by omega)).trans h.b2
    have g3 : ∀ o, (W.putObj (w.heap.size + 3) o).heap[w.heap.size + 3]? = some o := fun o => World.putObj_heap_same (Array.getElem?_eq_some_iff.1 h.b3).1
    have gk : ∀ o k, k ≠ w.heap.size + 3 → (W.putObj (w.heap.size + 3) o).heap[k]? = W.heap[k]? := fun o k hk => World.putObj_heap_other (by omega)
    have gj : ∀ o, J (W.putObj (w.heap.size + 3) o) := fun o => c _ _ h.j ((Near.refl _ _ _).putObj (by omega) (by omega) o)
    have gs : ∀ o, (W.putObj (w.heap.size + 3) o).heap.size = W.heap.size := fun o => by simp
    have h3 := h.b3
    have CC := Lib.hid c
    have CD := Lib.hid c'
    have YY := Lib.hid y
    have TE := Lib.hid te
    have GK := Lib.hid gk
    clear c c' y te gk
    rw [← hr] at h3 hK ⊢
    clear hr e0 e1 e2 e3 e4 hx0 hx1 hsz hz hb0
    dsimp only at hK ⊢
    have HK := Lib.hid hK
    clear hK
    have H3 := Lib.hid h3
    clear h3
    simp only [List.size_toArray, List.zip_toArray, List.zip_cons_cons, List.zip_nil_left, List.zip_nil_right, Array.zip, List.foldl_toArray, List.foldl_cons, List.foldl_nil, List.setIfInBounds_toArray, List.set_cons_succ, List.set_cons_zero]
    gi_wp2
    refine HK.out _ _ H3.out ?_
    clear H3 HK K h
    generalize ho : (Obj.loop _) = o
    have HO := Lib.hid ho
    clear ho
    have g0 := g0 o
    have g1 := g1 o
    have g2 := g2 o
    have g3 := g3 o
    have gj := gj o
    have gs := gs o
    have GK := Lib.hid (GK.out o)
    generalize W.putObj (w.heap.size + 3) o = W1 at g0 g1 g2 g3 gj gs GK ⊢
    have gc := (show Boxed W1.drew _ 127 _ from g0).cell
    have gj' := CC.out _ _ gj (Near.refl _ _ _).drew
    have ge := TE.out _ gj'
    have ge0 : W1.drew.cell? ⟨E, 0, none⟩ = some (.string k) := by simp [World.cell?, ge]
    have ge1 : W1.drew.cell? ⟨E, 1, none⟩ = some v := by simp [World.cell?, ge]
    obtain ⟨fn1, tm1, sg1, bd1, hy1, hR1⟩ := YY.out W1.drew gj' (by show _ ≤ W1.heap.size; omega)
    have HR := Lib.hid hR1
    clear hR1 ge
    change Code.wpIn (Fence.wide.inRound (w.heap.size + 3)) _ _ _ _ _ _
    gi_wp2_with (fail)
    refine wpIn_region_tail (ro := some (w.heap.size + 3)) 9 hmix (by kernel_rfl) ?_
    generalize hwd : W1.drew = wd at gc gj' ge0 ge1 hy1 HR ⊢
    have hh : wd.heap = W1.heap := by rw [← hwd]; rfl
    have GK := GK.out
    rw [← hh] at g0 g1 g2 g3 gs
    simp only [← hh] at GK
    have GK := Lib.hid GK
    clear hh
    clear hwd
    simp only [List.take_succ_cons, List.take_zero, List.drop_succ_cons, List.drop_zero]
    repeat still_step
    refine wpStill_nil ?_
    change wpListIn (Fence.wide.inRound (w.heap.size + 3)) _ _ _ _ _ _ _
    gi_wp2
    refine ⟨rfl, ?_⟩
    refine (show RoundIn (Fence.wide.inRound _) _ _ _ _ _ _ _ _ _ from HR.out).mono ?_
    rintro e W2 ⟨rfl, hj2, hs2, hbl⟩
    clear HR hy1 gc ge0 ge1
    have HB := Lib.hid hbl
    clear hbl
    gi_wp2
    have hl := (Array.getElem?_eq_some_iff.1 ((HB.out (w.heap.size + 3) (by omega) (by omega)).trans g3)).1
    refine ⟨_, (HB.out _ (by omega) (by omega)).trans (g3.trans (congrArg some HO.out.symm)), ⟨CD.out _ _ hj2 ((Near.refl _ _ _).putObj (by omega) (by omega) _), by simp; omega, (World.putObj_heap_other (by omega)).trans ((HB.out _ (by omega) (by omega)).trans g0),
      (World.putObj_heap_other (by omega)).trans ((HB.out _ (by omega) (by omega)).trans g1), (World.putObj_heap_other (by omega)).trans ((HB.out _ (by omega) (by omega)).trans g2), World.putObj_heap_same hl⟩, by simp; omega,
      fun k h1 h2 => (World.putObj_heap_other (by omega)).trans ((HB.out k (by omega) (by omega)).trans (GK.out k (by omega)))⟩
  refine (all122 (w.heap.size + 3) (w.heap.size + 1) L M X1 X2 E1 E2 (w.heap.size + 4) m k1 k2 (LayG w.heap.size (.cells #[.func (.yield l1) #[] #[]] 127) (.cells #[.pointer (some ⟨L, 0, none⟩)] 106) r J0)
    (LayG w.heap.size (.cells #[.func (.yield l1) #[] #[]] 127) (.cells #[.pointer (some ⟨L, 0, none⟩)] 106) r J1) (LayG w.heap.size (.cells #[.func (.yield l1) #[] #[]] 127) (.cells #[.pointer (some ⟨L, 0, none⟩)] 106) r J2)
    (fun _ _ h hn => h.near C0.out hn) (fun _ _ h hn => h.near C1.out hn) (fun _ _ h hn => h.near C2.out hn) (fun W h => (T0.out W h.j).1) (fun W h => (T1.out W h.j).1) (fun W h => T2.out W h.j)
    (G k1 E1 v1 J0 J1 C0.out C1.out (fun W h => (T0.out W h).2) Y1.out) (G k2 E2 v2 J1 J2 C1.out C2.out (fun W h => (T1.out W h).2) Y2.out) w2 e4 e1 ⟨C0.out _ _ h0 hb1, by omega, e0, e1, e2, e3⟩).mono ?_
  rintro e W ⟨rfl, hW⟩
  refine ⟨⟨_, rfl⟩, hW.b3, ?_⟩
  have h1 := hW.b2
  have h2 : ∀ o, J2 (W.putObj (w.heap.size + 3) o) := fun o => C2.out _ _ hW.j ((Near.refl _ _ _).putObj (by omega) (by omega) o)
  have h3 : ∀ o, (W.putObj (w.heap.size + 3) o).heap[w.heap.size + 2]? = some (.deferred (some [])) := fun o => (World.putObj_heap_other (by omega)).trans h1
  generalize (Obj.loop _) = rec2
  have h2 := h2 rec2
  have h3 := h3 rec2
  generalize W.putObj (w.heap.size + 3) rec2 = w3 at h2 h3 ⊢
  dsimp only [List.cons_append, List.nil_append]
  clear hr G
  gi_wp2
  rw [← hsz] at h3
  refine ⟨by simp, .inl ⟨_, _, rfl, run_takeDeferred h3, ?_⟩⟩
  exact ⟨_, results_none rfl _ _ _, rfl, C2.out _ _ h2 ((Near.refl _ _ _).putObj (by omega) (by omega) _)⟩
end Go.Proofs.YtfhjffkcobmkaaaGreat
