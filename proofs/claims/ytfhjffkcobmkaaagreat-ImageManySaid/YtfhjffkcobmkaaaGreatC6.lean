/- Snapshot of a table over a cache of two entries. -/
import Derived.WalkKit
import Derived.Lib.Hide
import Derived.WalkLawsBesides
import Derived.WalkSpells
import Derived.BigQuiet
import Derived.Deep.QuietTactic
import Derived.Handy
import Derived.RangeFuncBox
import Derived.Shelf.Abstract
import Derived.Deep.RegionWith
import Derived.Deep.RegionHeld3
import Derived.StillTailTactics
import Derived.Lib.AppendStr
import Derived.RangeFuncNested
import Derived.RangeFuncBound
import Derived.RangeFuncCalls
import Derived.RangeFuncLeaves
import Derived.Shelf.AbstractIn
import Derived.Shelf.RegionOpen
import Derived.OwnWalkIn
import Derived.TacticsInMore
import Derived.LoopNIn
import Derived.LoopIn
import Derived.LaidEqlPtr
import Derived.Lib.Builder
import Derived.Test.YtfhjffkcobmkaaaGreatC5
set_option linter.unusedVariables false
set_option linter.unusedSimpArgs false
namespace Go.Proofs.YtfhjffkcobmkaaaGreat
open Go.RowKit
attribute [local go_sem] Oper.semAt_some
attribute [local irreducible] wpStill
theorem wpListIn_append_own_string {F : Fence} {n' : Nat} {P : Program} {w : World} {ops : Array Oper} {rest : List Oper} {o : Oper} {a : Act} {Q : Exit → Act → World → Prop} (hgd : o.guard = none) (sl x : Operand) (t u : TypeId)
    (ho : o.op = .call { callee := .builtin .append, args := #[sl, x], argTypes := #[t, u] })
    (base : Nat) (e : TypeId) (i : TypeInfo) (ht : P.underlying t = some (.slice e)) (hu : P.underlying u = some .string) (hi : P.info? e = some i) (hz : i.zero = some (.int .u8 0))
    (hsize : i.size = 1) (hby : i.bytes = 1)
    (v : Value) (n : Nat) (xs : List Value) (hs : a.eval sl = v) (hown : w.ownsRow base e 1 v n xs) (s : ByteArray) (hx : a.eval x = .string s)
    (h63 : n + s.size ≤ maxLen) (hbytes : n + s.size ≤ 140737488355328) (hbase : base ≤ w.heap.size)
    (h : ∀ v' w', w'.ownsRow base e 1 v' (n + s.size) (xs ++ Lib.strCells s) → w.grownBy w' v.ownBlock → (v' = .slice none 0 0 ↔ v = .slice none 0 0 ∧ s.size = 0) → wpListIn F n' P ops Q rest (a.put o.dst v') w') : wpListIn F n' P ops Q (o :: rest) a w := by
  refine wpListIn_plain hgd fun K hK => ?_
  obtain ⟨v', w', hr, h2, h3, h4⟩ := Lib.run_append_own_string (P := P) w base t u o.type e i ht hu hi hz hsize hby v n xs hown s h63 hbytes hbase
  unfold Oper.wpIn
  refine ⟨?_, ?_⟩
  · simp [Oper.about, ho, resolve, Target.leads, Sem.run_pure]
  · rw [Oper.semAt_plain F _ _ (by rw [ho]; intro c hc'; cases hc')]
    simp [execOp, ho, resolve, invoke, builtin, hs, hx, hr, Result.andThen]
    exact hK _ _ (h v' w' h2 h3 h4)
theorem ownsRow_same {w w' : World} {base : Nat} {e : TypeId} {v : Value} {n : Nat} {xs : List Value} (h : w.ownsRow base e 1 v n xs) (hs : ∀ k, base ≤ k → k < w.heap.size → w'.heap[k]? = w.heap[k]?) : w'.ownsRow base e 1 v n xs := by
  refine ⟨h.1, ?_⟩
  rcases h.2 with h0 | ⟨g, cap, cur, he, hb, hg, r⟩
  · exact .inl h0
  · exact .inr ⟨g, cap, cur, he, hb, (hs g hb (Array.getElem?_eq_some_iff.1 hg).1).trans hg, r⟩
/-- The state between two rounds of Snapshot's loop -/
structure Snap (w : World) (T : Nat) (r : Loop) (bs : List UInt8) (W : World) : Prop where
  below : Below w.heap.size w W
  sz : w.heap.size + 4 ≤ W.heap.size
  box : ∃ v, Boxed W w.heap.size 28 v ∧ W.ownsRow (w.heap.size + 12) 5 1 v bs.length (bs.map u8)
  b1 : W.heap[w.heap.size + 1]? = some (.cells #[.pointer (some ⟨T, 0, none⟩)] 69 (0, 0))
  b2 : W.heap[w.heap.size + 2]? = some (.deferred (some []))
  b3 : W.heap[w.heap.size + 3]? = some (.loop r)
theorem below_near {N A B : Nat} {a W W' : World} (h : Below N a W) (hn : Near A B W W') (ho : W'.os = W.os ∧ W'.tape = W.tape ∧ W'.output = W.output) (hA : N ≤ A) (hs : N ≤ W.heap.size) : Below N a W' :=
  h.trans ⟨ho.1, ho.2.1, ho.2.2, hn.size, fun k hk => hn.same k (by omega) (by omega)⟩
theorem grown_same {a b : World} {base : Nat} {v : Value} {n : Nat} {xs : List Value} (hg : a.grownBy b v.ownBlock) (h : a.ownsRow base 5 1 v n xs) (k : Nat) (h1 : k < base) (h2 : k < a.heap.size) : b.heap[k]? = a.heap[k]? := by
  refine hg.block k h2 fun e => ?_
  rcases h.2 with ⟨rfl, _⟩ | ⟨g, cap, cur, rfl, hb, _⟩
  · cases e
  · simp [Value.ownBlock] at e; omega
theorem own_ge {a : World} {base : Nat} {v : Value} {n : Nat} {xs : List Value} (h : a.ownsRow base 5 1 v n xs) (k : Nat) (hk : v.ownBlock = some k) : base ≤ k := by
  rcases h.2 with ⟨rfl, _⟩ | ⟨g, cap, cur, rfl, hb, _⟩
  · cases hk
  · simp [Value.ownBlock] at hk; omega
theorem Snap.near {w W W' : World} {T : Nat} {r : Loop} {bs : List UInt8} (h : Snap w T r bs W) (hn : Near (w.heap.size + 4) (w.heap.size + 12) W W') : Snap w T r bs W' := by
  have hs := h.sz
  obtain ⟨v, hb, hr⟩ := h.box
  exact ⟨below_near h.below hn hn.rest (by omega) (by omega), by have := hn.size; omega, ⟨v, (hn.same _ (by omega) (by omega)).trans hb, ownsRow_same hr fun k h1 h2 => hn.same k h2 (by omega)⟩,
    (hn.same _ (by omega) (by omega)).trans h.b1, (hn.same _ (by omega) (by omega)).trans h.b2, (hn.same _ (by omega) (by omega)).trans h.b3⟩
theorem One_size (c : UInt8) : (One c).size = 1 := rfl
theorem one_cells (c : UInt8) : Lib.strCells (One c) = [u8 c] := by rw [strCells_u8]; rfl
set_option maxHeartbeats 1000000 in
set_option maxRecDepth 100000 in
theorem snapshot46lru (T L M X1 X2 E1 E2 D1 D2 : Nat) (m mx : Int) (s : ByteArray) (a1 b1 a2 b2 : UInt8) (cp1 cp2 : Nat) (cur1 cur2 : Array Value) (w : World)
    (hT : w.heap[T]? = some (.cells (tabCells s mx L) 101 (0, 0))) (hp : Pair w L M m X1 X2 E1 E2 (One a1) (One a2))
    (he1 : w.heap[E1]? = some (.cells #[.string (One a1), .slice (some ⟨D1, 0, none⟩) 1 cp1] 111 (0, 0))) (he2 : w.heap[E2]? = some (.cells #[.string (One a2), .slice (some ⟨D2, 0, none⟩) 1 cp2] 111 (0, 0)))
    (hd1 : w.heap[D1]? = some (.cells cur1 5 (0, 0))) (hd2 : w.heap[D2]? = some (.cells cur2 5 (0, 0))) (hc1 : cur1[0]? = some (u8 b1)) (hc2 : cur2[0]? = some (u8 b2)) :
    Calls Tryz.prog 46 #[.pointer (some ⟨T, 0, none⟩)] w fun e W => ∃ D cap, e = .returned (.slice (some ⟨D, 0, none⟩) 4 cap) ∧ Below w.heap.size w W ∧ ∀ j u, ([a1, b1, a2, b2].map u8)[j]? = some u → W.cell? ⟨D, j, none⟩ = some u := by
  refine (callsIn_wide (n := 0)).1 ?_
  refine callsIn_of_wp_marks Tryz.func46 rfl trivial ?_
  simp only [Tryz.ntmps46, List.size_toArray, List.length_cons, List.length_nil, Nat.reduceAdd, Nat.reduceSub, Array.replicate_succ, Array.replicate_zero, List.push_toArray, List.append_toArray, List.nil_append, List.cons_append]
  have hTl := (Array.getElem?_eq_some_iff.1 hT).1
  have hD1 := (Array.getElem?_eq_some_iff.1 hd1).1
  have hD2 := (Array.getElem?_eq_some_iff.1 hd2).1
  gi_wp2_with (refine ⟨trivial, rfl, ?_⟩; gi_at_call 56; refine (callsIn_wide.2 (all56 _ _)).mono ?_; rintro e w1 ⟨rfl, rfl⟩)
  have hb0 : Below w.heap.size w ((w.alloc (.cells #[.slice none 0 0] 28)).alloc (.cells #[.pointer (some ⟨T, 0, none⟩)] 69)) := ((Below.refl _ _).alloc (Nat.le_refl _) _).alloc (by simp) _
  have hx0 : Boxed ((w.alloc (.cells #[.slice none 0 0] 28)).alloc (.cells #[.pointer (some ⟨T, 0, none⟩)] 69)) w.heap.size 28 (.slice none 0 0) := (Boxed.new _ _ _).alloc _
  have hx1 : Boxed ((w.alloc (.cells #[.slice none 0 0] 28)).alloc (.cells #[.pointer (some ⟨T, 0, none⟩)] 69)) (w.alloc (.cells #[.slice none 0 0] 28)).heap.size 69 (.pointer (some ⟨T, 0, none⟩)) := Boxed.new _ _ _
  rw [World.size_alloc] at hx1
  refine range_law 59 #[.pointer (some ⟨w.heap.size + 1, 0, none⟩)] rfl ent59 (fun fn => ?_)
  generalize hw1 : (w.alloc (.cells #[.slice none 0 0] 28)).alloc (.cells #[.pointer (some ⟨T, 0, none⟩)] 69) = w1 at hb0 hx0 hx1
  have hs1 : w1.heap.size = w.heap.size + 2 := by rw [← hw1]; simp
  generalize hr : (Loop.mk _ _ _ _ _ _ _ _) = r
  have hs2 : ((w1.alloc (.deferred (some []))).alloc (.loop r)).heap.size = w1.heap.size + 2 := by simp
  have S0 : Snap w T r [] ((w1.alloc (.deferred (some []))).alloc (.loop r)) := by
    refine ⟨(hb0.alloc (by omega) _).alloc (by simp; omega) _, by simp; omega, ⟨_, (heap_old _ _ _ (by simp; omega)).trans ((heap_old _ _ _ (by omega)).trans hx0), by simp, .inl ⟨rfl, rfl⟩⟩,
      (heap_old _ _ _ (by simp; omega)).trans ((heap_old _ _ _ (by omega)).trans hx1), (heap_old _ _ _ (by simp; omega)).trans (heap_new _ _ _ (by omega)), heap_new _ _ _ (by simp; omega)⟩
  clear hw1 hb0 hx0 hx1
  generalize (w1.alloc (.deferred (some []))).alloc (.loop r) = w2 at S0 hs2
  have hz : w1.heap.size + 1 = w.heap.size + 3 := by omega
  simp only [hz]
  have G : ∀ (a b : UInt8) (D cp : Nat) (cur : Array Value) (bs : List UInt8), bs.length ≤ 100 → w.heap[D]? = some (.cells cur 5 (0, 0)) → cur[0]? = some (u8 b) →
      Yl (w.heap.size + 4) (w.heap.size + 4 + 8) (w.heap.size + 3) #[.string (One a), .slice (some ⟨D, 0, none⟩) 1 cp] (Snap w T r bs) (Snap w T r (bs ++ [a, b])) := by
    intro a b D cp cur bs hlen hD hcur W h hsW
    clear S0 hs2 hT hp he1 he2 hd1 hd2 hc1 hc2 hD1 hD2
    have hDl := (Array.getElem?_eq_some_iff.1 hD).1
    refine round_law' h.b3 (by rw [← hr]) (by rw [← hr]; rfl) (fun K hK => ?_)
    obtain ⟨v, hbx, hrow⟩ := h.box
    have hbelow := h.below
    have gb : ∀ o, Below w.heap.size w (W.putObj (w.heap.size + 3) o) := fun o => putObj_below hbelow (by omega) o
    have g0 : ∀ o, Boxed (W.putObj (w.heap.size + 3) o) w.heap.size 28 v := fun o => (World.putObj_heap_other (by omega)).trans hbx
    have g1 : ∀ o, (W.putObj (w.heap.size + 3) o).heap[w.heap.size + 1]? = some (.cells #[.pointer (some ⟨T, 0, none⟩)] 69 (0, 0)) := fun o => (World.putObj_heap_other (by omega)).trans h.b1
    have g2 : ∀ o, (W.putObj (w.heap.size + 3) o).heap[w.heap.size + 2]? = some (.deferred (some [])) := fun o => (World.putObj_heap_other (by omega)).trans h.b2
    have g3 : ∀ o, (W.putObj (w.heap.size + 3) o).heap[w.heap.size + 3]? = some o := fun o => World.putObj_heap_same (Array.getElem?_eq_some_iff.1 h.b3).1
    have gk : ∀ o k, k ≠ w.heap.size + 3 → (W.putObj (w.heap.size + 3) o).heap[k]? = W.heap[k]? := fun o k hk => World.putObj_heap_other (by omega)
    have gr : ∀ o, (W.putObj (w.heap.size + 3) o).ownsRow (w.heap.size + 12) 5 1 v bs.length (bs.map u8) := fun o => ownsRow_same hrow fun k h1 h2 => World.putObj_heap_other (by omega)
    have gs : ∀ o, (W.putObj (w.heap.size + 3) o).heap.size = W.heap.size := fun o => by simp
    have h3 := h.b3
    have GK := Lib.hid gk
    clear gk hbelow hbx hrow
    rw [← hr] at h3 hK ⊢
    clear hr hz
    dsimp only at hK ⊢
    have HK := Lib.hid hK
    clear hK
    have H3 := Lib.hid h3
    clear h3
    simp only [List.size_toArray, List.zip_toArray, List.zip_cons_cons, List.zip_nil_left, List.zip_nil_right, Array.zip, List.foldl_toArray, List.foldl_cons, List.foldl_nil, List.setIfInBounds_toArray, List.set_cons_succ, List.set_cons_zero]
    gi_wp2
    refine HK.out _ _ H3.out ?_
    clear H3 HK K h
    generalize ho : (Obj.loop _) = o
    have HO := Lib.hid ho
    clear ho
    have gb := gb o
    have g0 := g0 o
    have g1 := g1 o
    have g2 := g2 o
    have g3 := g3 o
    have gr := gr o
    have gs := gs o
    have GK := Lib.hid (GK.out o)
    generalize W.putObj (w.heap.size + 3) o = W1 at gb g0 g1 g2 g3 gr gs GK ⊢
    have gc := g0.cell
    obtain ⟨i0, hi, hz0, hz1, hz2⟩ := info_parts Tryz.info5
    change Code.wpIn (Fence.wide.inRound (w.heap.size + 3)) _ _ _ _ _ _
    gi_wp2_with (first
      | (gi_at_builtin; refine wpListIn_append_own_string rfl _ _ 28 9 rfl (w.heap.size + 12) 5 i0 Tryz.underlying28 Tryz.underlying9 hi hz0 hz1 hz2 v bs.length (bs.map u8) rfl gr (One a) rfl ?a1 ?a2 ?a3 ?a4; rotate_right; intro va Wa hra hga hna; have gsa := hga.size; have gxa : Boxed Wa w.heap.size 28 v := (grown_same hga gr _ (by omega) (by omega)).trans g0)
      | (gi_at_builtin; refine wpListIn_append_own _ rfl _ _ 28 rfl (w.heap.size + 12) 5 i0 (.int .u8 0) 1 1 Tryz.underlying28 hi hz0 hz1 hz2 rfl (by decide) va (bs.length + (One a).size) (bs.map u8 ++ Lib.strCells (One a)) rfl hra ⟨D, 0, none⟩ 1 cp [u8 b] rfl rfl ?c1 ?c2 ?c3 ?c4 ?c5 ?_; rotate_right; intro vb Wb hrb hgb hnb; have gsb := hgb.size; have gxb : Boxed Wb w.heap.size 28 v := (grown_same hgb hra _ (by omega) (by omega)).trans gxa; have gcb := gxb.cell; have gfb := gxb.frozen; obtain ⟨gB, capB, rfl⟩ := ownsRow_pos (Nat.succ_pos _) hrb))
    case a1 => rw [One_size]; unfold maxLen; omega
    case a2 => rw [One_size]; omega
    case a3 => omega
    case c1 =>
      intro j u hj
      obtain rfl : j = 0 := by
        cases j with
        | zero => rfl
        | succ j => simp at hj
      simp at hj
      subst hj
      have hDa : Wa.heap[D]? = some (.cells cur 5 (0, 0)) := (grown_same hga gr _ (by omega) (by omega)).trans ((gb.block D (by omega)).trans hD)
      simp [World.cell?, hDa, Addr.add, hcur]
    case c2 => intro u hu; simp at hu; subst hu; rfl
    case c3 => rw [One_size]; unfold maxLen; omega
    case c4 => rw [One_size]; omega
    case c5 => omega
    have kb : ∀ k, k < w.heap.size + 12 → Wb.heap[k]? = W1.heap[k]? := fun k h1 => (grown_same hgb hra k h1 (by omega)).trans (grown_same hga gr k h1 (by omega))
    have kc : ∀ (u : Value) k, k ≠ w.heap.size → (Wb.setCell ⟨w.heap.size, 0, none⟩ u).heap[k]? = Wb.heap[k]? := fun u k h1 => Below.heap_setCell _ _ _ _ h1
    have sc : ∀ u, (Wb.setCell ⟨w.heap.size, 0, none⟩ u).heap.size = Wb.heap.size := fun u => by simp [World.setCell]
    have bc : ∀ u, Below w.heap.size w (Wb.setCell ⟨w.heap.size, 0, none⟩ u) := fun u => ((gb.grown hga (by omega) fun k hk => by have := own_ge gr k hk; omega).grown hgb (by omega) fun k hk => by have := own_ge hra k hk; omega).setCell (Nat.le_refl _) u
    have rc : ∀ u, (Wb.setCell ⟨w.heap.size, 0, none⟩ u).ownsRow (w.heap.size + 12) 5 1 (.slice (some ⟨gB, 0, none⟩) (bs.length + (One a).size + 1) capB) (bs.length + (One a).size + 1) (bs.map u8 ++ Lib.strCells (One a) ++ [u8 b]) := fun u => ownsRow_setCell_below hrb (by show w.heap.size < _; omega) u
    have xc : ∀ u, Boxed (Wb.setCell ⟨w.heap.size, 0, none⟩ u) w.heap.size 28 u := fun u => gxb.set u
    have kd : ∀ u k, k < w.heap.size + 12 → k ≠ w.heap.size → (Wb.setCell ⟨w.heap.size, 0, none⟩ u).heap[k]? = W1.heap[k]? := fun u k h1 h2 => (kc u k h2).trans (kb k h1)
    have l3 := fun u => (Array.getElem?_eq_some_iff.1 ((kd u (w.heap.size + 3) (by omega) (by omega)).trans g3)).1
    refine ⟨_, (kd _ _ (by omega) (by omega)).trans (g3.trans (congrArg some HO.out.symm)), ⟨putObj_below (bc _) (by omega) _, by simp [sc]; omega, ⟨_, (World.putObj_heap_other (by omega)).trans (xc _), ?_⟩, (World.putObj_heap_other (by omega)).trans ((kd _ _ (by omega) (by omega)).trans g1),
      (World.putObj_heap_other (by omega)).trans ((kd _ _ (by omega) (by omega)).trans g2), World.putObj_heap_same (l3 _)⟩, by simp [sc]; omega, fun k h1 h2 => (World.putObj_heap_other (by omega)).trans ((kd _ k (by omega) (by omega)).trans (GK.out k (by omega)))⟩
    have hrow2 := rc (.slice (some ⟨gB, 0, none⟩) (bs.length + (One a).size + 1) capB)
    have e1 : bs.map u8 ++ Lib.strCells (One a) ++ [u8 b] = (bs ++ [a, b]).map u8 := by rw [one_cells]; simp
    have e2 : bs.length + (One a).size + 1 = (bs ++ [a, b]).length := by rw [One_size]; simp
    rw [e1, e2] at hrow2
    rw [show bs.length + (One a).size + 1 = (bs ++ [a, b]).length from e2]
    exact ownsRow_same hrow2 fun k h1 h2 => World.putObj_heap_other (by omega)
  have PJ : ∀ bs W, Snap w T r bs W → Pair W L M m X1 X2 E1 E2 (One a1) (One a2) := fun bs W h =>
    ⟨⟨(h.below.block L (Array.getElem?_eq_some_iff.1 hp.list.h).1).trans hp.list.h⟩, (h.below.block X1 (Array.getElem?_eq_some_iff.1 hp.one).1).trans hp.one, (h.below.block X2 (Array.getElem?_eq_some_iff.1 hp.two).1).trans hp.two⟩
  refine (tabAll59lru (w.heap.size + 3) (w.heap.size + 1) T L M X1 X2 E1 E2 (w.heap.size + 4) m mx s (One a1) (One a2) _ _ (Snap w T r []) (Snap w T r [a1, b1]) (Snap w T r [a1, b1, a2, b2])
    (fun _ _ h hn => h.near hn) (fun _ _ h hn => h.near hn) (fun _ _ h hn => h.near hn) (fun W h => ⟨PJ _ W h, (h.below.block E1 (Array.getElem?_eq_some_iff.1 he1).1).trans he1⟩) (fun W h => ⟨PJ _ W h, (h.below.block E2 (Array.getElem?_eq_some_iff.1 he2).1).trans he2⟩) (fun W h => PJ _ W h)
    (G a1 b1 D1 cp1 cur1 [] (by simp) hd1 hc1) (G a2 b2 D2 cp2 cur2 [a1, b1] (by simp) hd2 hc2) w2 (by omega) ((S0.below.block T hTl).trans hT) S0.b1 S0).mono ?_
  rintro e W ⟨rfl, hW⟩
  refine ⟨⟨_, rfl⟩, hW.b3, ?_⟩
  clear G PJ hr
  have hsz := hW.sz
  obtain ⟨v, hbx, hrow⟩ := hW.box
  obtain ⟨gB, capB, rfl⟩ := ownsRow_pos (Nat.succ_pos _) hrow
  have h1 := hW.b2
  have h2 : ∀ o, Below w.heap.size w (W.putObj (w.heap.size + 3) o) := fun o => putObj_below hW.below (by omega) o
  have h3 : ∀ o, (W.putObj (w.heap.size + 3) o).heap[w.heap.size + 2]? = some (.deferred (some [])) := fun o => (World.putObj_heap_other (by omega)).trans h1
  have h4 : ∀ o, Boxed (W.putObj (w.heap.size + 3) o) w.heap.size 28 _ := fun o => (World.putObj_heap_other (by omega)).trans hbx
  have h5 : ∀ o, (W.putObj (w.heap.size + 3) o).ownsRow (w.heap.size + 12) 5 1 _ _ _ := fun o => ownsRow_same hrow fun k h1 h2 => World.putObj_heap_other (by omega)
  generalize (Obj.loop _) = rec2
  have h2 := h2 rec2
  have h3 := h3 rec2
  have h4 := (h4 rec2).cell
  have h5 := h5 rec2
  generalize W.putObj (w.heap.size + 3) rec2 = w3 at h2 h3 h4 h5 ⊢
  dsimp only [List.cons_append, List.nil_append]
  have h6 := Lib.hid h5
  clear h5 hbx hrow hW
  gi_wp2
  rw [show w.heap.size + 2 = w1.heap.size by omega] at h3
  refine ⟨by simp, .inl ⟨_, _, rfl, run_takeDeferred h3, ?_⟩⟩
  refine ⟨_, results_tmp rfl _ _ _, _, _, rfl, putObj_below h2 (by omega) _, ?_⟩
  have h7 := ownsRow_same (w' := w3.putObj w1.heap.size (.deferred none)) h6.out fun k h1 h2 => World.putObj_heap_other (by omega)
  intro j u hj
  have h8 := h7.cells rfl j u hj
  have h9 : (⟨gB, 0, none⟩ : Addr).add j = ⟨gB, j, none⟩ := by
    cases j <;> simp [Addr.add]
  rwa [h9] at h8
end Go.Proofs.YtfhjffkcobmkaaaGreat
