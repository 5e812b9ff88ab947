/- The least-recently-used cache as an iterator over its entries. -/
import Derived.WalkKit
import Derived.Lib.Hide
import Derived.WalkLawsBesides
import Derived.WalkSpells
import Derived.BigQuiet
import Derived.Deep.QuietTactic
import Derived.Handy
import Derived.RangeFuncBox
import Derived.Shelf.Abstract
import Derived.Deep.RegionWith
import Derived.Deep.RegionHeld3
import Derived.StillTailTactics
import Derived.Lib.AppendStr
import Derived.RangeFuncNested
import Derived.RangeFuncBound
import Derived.RangeFuncCalls
import Derived.RangeFuncLeaves
import Derived.Shelf.AbstractIn
import Derived.Shelf.RegionOpen
import Derived.OwnWalkIn
import Derived.TacticsInMore
import Derived.LoopNIn
import Derived.LoopIn
import Derived.LaidEqlPtr
import Derived.Lib.Builder
import Derived.Test.YtfhjffkcobmkaaaGreatC3
set_option linter.unusedVariables false
set_option linter.unusedSimpArgs false
namespace Go.Proofs.YtfhjffkcobmkaaaGreat
open Go.RowKit
attribute [local go_sem] Oper.semAt_some
theorem round_law' {l : Nat} {r : Loop} {args : Array Value} {W : World} {R : World → Prop} (hl : W.heap[l]? = some (.loop r)) (hr : r.state = .ready) (hs : args.size = r.params.size)
    (h : ∀ K : Act → World → Prop, (∀ a w1, w1.heap[l]? = some (.loop r) → r.body.wpIn (Fence.wide.inRound l) 0 Tryz.prog (RQ l R) a (w1.putObj l (.loop { r with state := .busy })) → K a w1) →
      r.assign.wpIn (Fence.wide.inRound l) 0 Tryz.prog (Exit.then K (fun _ _ _ => False)) { tmps := (r.params.zip args).foldl (fun tmps (t, a) => tmps.setIfInBounds t a) r.tmps, defers := [] } W) :
    YieldAt Fence.wide 0 Tryz.prog l args W fun e W' => e = .returned (.bool true) ∧ R W' :=
  round_law hl hr hs (h _ fun _ _ h1 h2 => ⟨h1, h2⟩)
theorem ent130 : ∀ (args : Array Value) (w : World), (callFunc 130 args).run Tryz.prog w = .ok (.enter 130 args) w := enters_of Tryz.func130 (by kernel_rfl) rfl
theorem all123 (p : Option Addr) (w : World) :
    Calls Tryz.prog 123 #[.pointer p] w fun e w' => e = .returned (.func (.func 130) #[] #[.pointer (some ⟨w.heap.size, 0, none⟩)]) ∧ w.alloc (.cells #[.pointer p] 102) = w' := by
  go_enter Tryz.func123, Tryz.ntmps123
  go_wp2
  go_ret
  exact ⟨rfl, rfl⟩
structure Lay4 (A l2 L : Nat) (r : Loop) (J : World → Prop) (W : World) : Prop where
  j : J W
  sz : A + 4 ≤ W.heap.size
  b0 : W.heap[A]? = some (.cells #[.func (.yield l2) #[] #[]] 152 (0, 0))
  b1 : W.heap[A + 1]? = some (.cells #[.pointer (some ⟨L, 0, none⟩)] 102 (0, 0))
  b2 : W.heap[A + 2]? = some (.deferred (some []))
  b3 : W.heap[A + 3]? = some (.loop r)
theorem Lay4.drew {A l2 L : Nat} {r : Loop} {J : World → Prop} {W : World} (h : Lay4 A l2 L r J W) (c : ∀ W W', J W → Near A (A + 4) W W' → J W') : Lay4 A l2 L r J W.drew :=
  ⟨c _ _ h.j (Near.refl _ _ _).drew, h.sz, h.b0, h.b1, h.b2, h.b3⟩
set_option maxHeartbeats 800000 in
set_option maxRecDepth 100000 in
theorem all122 (l2 rb L M X1 X2 E1 E2 A : Nat) (m : Int) (k1 k2 : ByteArray) (J0 J1 J2 : World → Prop)
    (c0 : ∀ W W', J0 W → Near A (A + 4) W W' → J0 W') (c1 : ∀ W W', J1 W → Near A (A + 4) W W' → J1 W') (c2 : ∀ W W', J2 W → Near A (A + 4) W W' → J2 W')
    (t0 : ∀ W, J0 W → Pair W L M m X1 X2 E1 E2 k1 k2) (t1 : ∀ W, J1 W → Pair W L M m X1 X2 E1 E2 k1 k2) (t2 : ∀ W, J2 W → Pair W L M m X1 X2 E1 E2 k1 k2)
    (y1 : Yl A (A + 4) l2 #[.pointer (some ⟨E1, 0, none⟩)] J0 J1) (y2 : Yl A (A + 4) l2 #[.pointer (some ⟨E2, 0, none⟩)] J1 J2)
    (w : World) (hA : w.heap.size = A) (hr : w.heap[rb]? = some (.cells #[.pointer (some ⟨L, 0, none⟩)] 106 (0, 0))) (h0 : J0 w) :
    Calls Tryz.prog 122 #[.func (.yield l2) #[] #[], .pointer (some ⟨rb, 0, none⟩)] w fun e W => e = .returned (.tuple #[]) ∧ J2 W := by
  refine (callsIn_wide (n := 0)).1 ?_
  refine callsIn_of_wp_marks Tryz.func122 rfl trivial ?_
  simp only [Tryz.ntmps122, List.size_toArray, List.length_cons, List.length_nil, Nat.reduceAdd, Nat.reduceSub, Array.replicate_succ, Array.replicate_zero, List.push_toArray, List.append_toArray, List.nil_append, List.cons_append]
  subst hA
  have hrl := (Array.getElem?_eq_some_iff.1 hr).1
  have hrc : w.cell? ⟨rb, 0, none⟩ = some (.pointer (some ⟨L, 0, none⟩)) := by simp [World.cell?, hr]
  have C0 := Lib.hid c0
  have C1 := Lib.hid c1
  have C2 := Lib.hid c2
  have T0 := Lib.hid t0
  have T1 := Lib.hid t1
  have T2 := Lib.hid t2
  have Y1 := Lib.hid y1
  have Y2 := Lib.hid y2
  clear c0 c1 c2 t0 t1 t2 y1 y2 hr
  gi_wp2_with (refine ⟨trivial, rfl, ?_⟩; gi_at_call 123; refine (callsIn_wide.2 (all123 _ _)).mono ?_; rintro e w1 ⟨rfl, rfl⟩)
  have hb0 : Near w.heap.size (w.heap.size + 4) w ((w.alloc (.cells #[.func (.yield l2) #[] #[]] 152)).alloc (.cells #[.pointer (some ⟨L, 0, none⟩)] 102)) := ((Near.refl _ _ _).alloc _).alloc _
  have hx0 : ((w.alloc (.cells #[.func (.yield l2) #[] #[]] 152)).alloc (.cells #[.pointer (some ⟨L, 0, none⟩)] 102)).heap[w.heap.size]? = some (.cells #[.func (.yield l2) #[] #[]] 152 (0, 0)) := (heap_old _ _ _ (by simp)).trans (heap_new _ _ _ rfl)
  have hx1 : ((w.alloc (.cells #[.func (.yield l2) #[] #[]] 152)).alloc (.cells #[.pointer (some ⟨L, 0, none⟩)] 102)).heap[w.heap.size + 1]? = some (.cells #[.pointer (some ⟨L, 0, none⟩)] 102 (0, 0)) := heap_new _ _ _ (by simp)
  have hsz : ((w.alloc (.cells #[.func (.yield l2) #[] #[]] 152)).alloc (.cells #[.pointer (some ⟨L, 0, none⟩)] 102)).heap.size = w.heap.size + 2 := by simp
  generalize hw1 : (w.alloc (.cells #[.func (.yield l2) #[] #[]] 152)).alloc (.cells #[.pointer (some ⟨L, 0, none⟩)] 102) = w1 at hb0 hx0 hx1 hsz
  clear hw1
  refine range_law 130 #[.pointer (some ⟨w.heap.size + 1, 0, none⟩)] rfl ent130 (fun fn => ?_)
  generalize hr : (Loop.mk _ _ _ _ _ _ _ _) = r
  have hb1 : Near w.heap.size (w.heap.size + 4) w ((w1.alloc (.deferred (some []))).alloc (.loop r)) := (hb0.alloc _).alloc _
  have e2 : ((w1.alloc (.deferred (some []))).alloc (.loop r)).heap[w.heap.size + 2]? = some (.deferred (some [])) := (heap_old _ _ _ (by simp; omega)).trans (heap_new _ _ _ (by omega))
  have e3 : ((w1.alloc (.deferred (some []))).alloc (.loop r)).heap[w.heap.size + 3]? = some (.loop r) := heap_new _ _ _ (by simp; omega)
  have e0 : ((w1.alloc (.deferred (some []))).alloc (.loop r)).heap[w.heap.size]? = some (.cells #[.func (.yield l2) #[] #[]] 152 (0, 0)) := ((heap_old _ _ _ (by simp; omega)).trans (heap_old _ _ _ (by omega))).trans hx0
  have e1 : ((w1.alloc (.deferred (some []))).alloc (.loop r)).heap[w.heap.size + 1]? = some (.cells #[.pointer (some ⟨L, 0, none⟩)] 102 (0, 0)) := ((heap_old _ _ _ (by simp; omega)).trans (heap_old _ _ _ (by omega))).trans hx1
  have e4 : ((w1.alloc (.deferred (some []))).alloc (.loop r)).heap.size = w.heap.size + 4 := by simp; omega
  generalize (w1.alloc (.deferred (some []))).alloc (.loop r) = w2 at hb1 e0 e1 e2 e3 e4
  have hz : w1.heap.size + 1 = w.heap.size + 3 := by omega
  simp only [hz]
  have G : ∀ (k : ByteArray) (E : Nat) (J J' : World → Prop), (∀ W W', J W → Near w.heap.size (w.heap.size + 4) W W' → J W') → (∀ W W', J' W → Near w.heap.size (w.heap.size + 4) W W' → J' W') →
      Yl w.heap.size (w.heap.size + 4) l2 #[.pointer (some ⟨E, 0, none⟩)] J J' → ∀ W, Lay4 w.heap.size l2 L r J W →
      YieldAt Fence.wide 0 Tryz.prog (w.heap.size + 3) #[.string k, .pointer (some ⟨E, 0, none⟩)] W fun e W' => e = .returned (.bool true) ∧ Lay4 w.heap.size l2 L r J' W' := by
    intro k E J J' c c' y W h
    clear C0 C1 C2 T0 T1 T2 Y1 Y2 h0 hb1
    refine round_law' h.b3 (by rw [← hr]) (by rw [← hr]; rfl) (fun K hK => ?_)
    have g0 : ∀ o, (W.putObj (w.heap.size + 3) o).heap[w.heap.size]? = some (.cells #[.func (.yield l2) #[] #[]] 152 (0, 0)) := fun o => (World.putObj_heap_other (by omega)).trans h.b0
    have g1 : ∀ o, (W.putObj (w.heap.size + 3) o).heap[w.heap.size + 1]? = some (.cells #[.pointer (some ⟨L, 0, none⟩)] 102 (0, 0)) := fun o => (World.putObj_heap_other (by omega)).trans h.b1
    have g2 : ∀ o, (W.putObj (w.heap.size + 3) o).heap[w.heap.size + 2]? = some (.deferred (some [])) := fun o => (World.putObj_heap_other (by omega)).trans h.b2
    have g3 : ∀ o, (W.putObj (w.heap.size + 3) o).heap[w.heap.size + 3]? = some o := fun o => World.putObj_heap_same (Array.getElem?_eq_some_iff.1 h.b3).1
    have gj : ∀ o, J (W.putObj (w.heap.size + 3) o) := fun o => c _ _ h.j ((Near.refl _ _ _).putObj (by omega) (by omega) o)
    have gs : ∀ o, w.heap.size + 4 ≤ (W.putObj (w.heap.size + 3) o).heap.size := fun o => by simpa using h.sz
    have h3 := h.b3
    have CC := Lib.hid c
    have CD := Lib.hid c'
    have YY := Lib.hid y
    clear c c' y
    rw [← hr] at h3 hK ⊢
    clear hr e0 e1 e2 e3 e4 hx0 hx1 hsz hz hb0
    dsimp only at hK ⊢
    have HK := Lib.hid hK
    clear hK
    have H3 := Lib.hid h3
    clear h3
    simp only [List.size_toArray, List.zip_toArray, List.zip_cons_cons, List.zip_nil_left, List.zip_nil_right, Array.zip, List.foldl_toArray, List.foldl_cons, List.foldl_nil, List.setIfInBounds_toArray, List.set_cons_succ, List.set_cons_zero]
    gi_wp2
    refine HK.out _ _ H3.out ?_
    clear H3 HK K h
    generalize ho : (Obj.loop _) = o
    have HO := Lib.hid ho
    clear ho
    have g0 := g0 o
    have g1 := g1 o
    have g2 := g2 o
    have g3 := g3 o
    have gj := gj o
    have gs := gs o
    generalize W.putObj (w.heap.size + 3) o = W1 at g0 g1 g2 g3 gj gs ⊢
    have gc := (show Boxed W1 _ 152 _ from g0).cell
    obtain ⟨fn1, tm1, sg1, bd1, hy1, hR1⟩ := YY.out W1 gj gs
    have HR := Lib.hid hR1
    clear hR1
    change Code.wpIn (Fence.wide.inRound (w.heap.size + 3)) _ _ _ _ _ _
    gi_wp2
    refine ⟨rfl, ?_⟩
    refine (show RoundIn (Fence.wide.inRound _) _ _ _ _ _ _ _ _ _ from HR.out).mono ?_
    rintro e W2 ⟨rfl, hj2, hs2, hbl⟩
    clear HR hy1 gc
    have HB := Lib.hid hbl
    clear hbl
    gi_wp2
    refine ⟨_, (HB.out _ (by omega) (by omega)).trans (g3.trans (congrArg some HO.out.symm)), ?_⟩
    have hl := (Array.getElem?_eq_some_iff.1 ((HB.out (w.heap.size + 3) (by omega) (by omega)).trans g3)).1
    exact ⟨CD.out _ _ hj2 ((Near.refl _ _ _).putObj (by omega) (by omega) _), by simp; omega, (World.putObj_heap_other (by omega)).trans ((HB.out _ (by omega) (by omega)).trans g0),
      (World.putObj_heap_other (by omega)).trans ((HB.out _ (by omega) (by omega)).trans g1), (World.putObj_heap_other (by omega)).trans ((HB.out _ (by omega) (by omega)).trans g2), World.putObj_heap_same hl⟩
  refine (ring130 (w.heap.size + 3) (w.heap.size + 1) L M X1 X2 E1 E2 m k1 k2 (Lay4 w.heap.size l2 L r J0) (Lay4 w.heap.size l2 L r J1) (Lay4 w.heap.size l2 L r J2) ?_ ?_ ?_ ?_ ?_ ?_ ?_ ?_ w2 ?_).mono ?_
  · exact fun W h => h.drew C0.out
  · exact fun W h => h.drew C1.out
  · exact fun W h => h.drew C2.out
  · exact fun W h => ⟨T0.out W h.j, h.b1⟩
  · exact fun W h => ⟨T1.out W h.j, h.b1⟩
  · exact fun W h => ⟨T2.out W h.j, h.b1⟩
  · exact G k1 E1 J0 J1 C0.out C1.out Y1.out
  · exact G k2 E2 J1 J2 C1.out C2.out Y2.out
  · exact ⟨C0.out _ _ h0 hb1, by omega, e0, e1, e2, e3⟩
  · rintro e W ⟨rfl, hW⟩
    refine ⟨⟨_, rfl⟩, hW.b3, ?_⟩
    have h1 := hW.b2
    have h2 : ∀ o, J2 (W.putObj (w.heap.size + 3) o) := fun o => C2.out _ _ hW.j ((Near.refl _ _ _).putObj (by omega) (by omega) o)
    have h3 : ∀ o, (W.putObj (w.heap.size + 3) o).heap[w.heap.size + 2]? = some (.deferred (some [])) := fun o => (World.putObj_heap_other (by omega)).trans h1
    generalize (Obj.loop _) = rec2
    have h2 := h2 rec2
    have h3 := h3 rec2
    generalize W.putObj (w.heap.size + 3) rec2 = w3 at h2 h3 ⊢
    dsimp only [List.cons_append, List.nil_append]
    gi_wp2
    refine ⟨by simp, .inl ⟨_, _, rfl, run_takeDeferred h3, ?_⟩⟩
    exact ⟨_, results_none rfl _ _ _, rfl, C2.out _ _ h2 ((Near.refl _ _ _).putObj (by omega) (by omega) _)⟩
end Go.Proofs.YtfhjffkcobmkaaaGreat
