/- Contracts of the snapshot of an empty table of the kind Hash: maps.Values, slices.Collect, SortFunc, Values and the range over them give nothing; a law for a range over a function whose rounds end normally. -/
import Derived.WalkKit
import Derived.Lib.Hide
import Derived.WalkLawsBesides
import Derived.WalkSpells
import Derived.BigQuiet
import Derived.Deep.QuietTactic
import Derived.Handy
import Derived.RangeFuncBox
import Derived.Shelf.Abstract
import Derived.RangeFuncNested
import Derived.RangeFuncBound
import Derived.RangeFuncCalls
import Derived.RangeFuncLeaves
import Derived.Shelf.AbstractIn
import Derived.Shelf.RegionOpen
import Derived.OwnWalkIn
import Derived.TacticsInMore
import Derived.LoopNIn
import Derived.LoopIn
import Derived.Test.YtfhjffkcobmkaaaGreatB3
set_option linter.unusedVariables false
set_option linter.unusedSimpArgs false
namespace Go.Proofs.YtfhjffkcobmkaaaGreat
open Go.RowKit
/-- THE STATEMENT 'for .. := range g { .. }' where the rounds end normally: the record is laid, g is called with yield; behind it the record is as it was laid. -/
theorem range_law {g : Operand} {ps : Array Tmp} {assign body : Code} {Q : Exit → Act → World → Prop} {a : Act} {w : World} (gf : FuncId) (lb : Array Value)
    (hg : a.eval g = .func (.func gf) #[] lb) (hen : ∀ args w, (callFunc gf args).run Tryz.prog w = .ok (.enter gf args) w)
    (hcall : ∀ fn, Calls Tryz.prog gf (#[.func (.yield (w.heap.size + 1)) #[] #[]] ++ lb)
      ((w.alloc (.deferred (some []))).alloc (.loop { state := .ready, pending := none, fn, tmps := a.tmps, params := ps, assign, body, defers := w.heap.size }))
      fun e W => (∃ v, e = .returned v) ∧ W.heap[w.heap.size + 1]? = some (.loop { state := .ready, pending := none, fn, tmps := a.tmps, params := ps, assign, body, defers := w.heap.size }) ∧
        Q .normal { a with defers := [{ target := .collected w.heap.size, args := #[] }] ++ a.defers } (W.putObj (w.heap.size + 1) (.loop { state := .exhausted, pending := none, fn, tmps := a.tmps, params := ps, assign, body, defers := w.heap.size }))) :
    (Code.rangeFunc g ps assign body).wpIn Fence.wide 0 Tryz.prog Q a w := by
  refine wpIn_rangeFunc (fun fn _ => ?_)
  refine ⟨w.heap.size + 1, [{ target := .collected w.heap.size, args := #[] }], _, { target := .fn (.func gf) lb, args := #[.func (.yield (w.heap.size + 1)) #[] #[]] }, ((w.alloc (.deferred (some []))).alloc (.loop { state := .ready, pending := none, fn, tmps := a.tmps, params := ps, assign, body, defers := w.heap.size })), gf, #[.func (.yield (w.heap.size + 1)) #[] #[]] ++ lb, ((w.alloc (.deferred (some []))).alloc (.loop { state := .ready, pending := none, fn, tmps := a.tmps, params := ps, assign, body, defers := w.heap.size })), run_enterLoop_outer fn a.tmps ps assign body, ?_, fun _ _ => trivial, ?_, fun h => by simp [Fence.wide] at h, ?_⟩
  · have hy : a.eval (.const (.func (.yield (w.heap.size + 1)) #[] #[])) = .func (.yield (w.heap.size + 1)) #[] #[] := rfl
    simp only [resolve, rangeCall, List.map_toArray, List.map_cons, List.map_nil, hg, hy, Deferred.ofValue]
    simp
  · simp only [invoke]
    exact hen _ _
  · refine callsIn_wide.2 ((hcall fn).mono ?_)
    rintro e W ⟨⟨v, rfl⟩, hl, hq⟩
    exact ⟨none, _, run_endLoop hl (by simp), hq⟩
theorem run_range97 (M clock : Nat) (w : World) (hM : w.heap[M]? = some (.map #[] clock)) : (Instr.range 97 (.map (some M))).run Tryz.prog w = .ok (.pointer (some ⟨w.heap.size, 0, none⟩)) (w.alloc (.mapIter (some M) clock #[] clock)) := by
  have h1 := run_underlying Tryz.underlying97 (w := w)
  have hg : (getObj M).run Tryz.prog w = .ok (.map #[] clock) w := by simp [getObj, Sem.run, hM]
  simp [Instr.range, Sem.run_bind, h1, hg, Result.andThen, run_newObj_alloc]
theorem run_next_none (M clock r : Nat) (ty : TypeId) (w : World) (hM : w.heap[M]? = some (.map #[] clock)) (hr : w.heap[r]? = some (.mapIter (some M) clock #[] clock)) : (Instr.next (.pointer (some ⟨r, 0, none⟩)) false ty).run Tryz.prog w = .ok (.tuple #[.bool false]) w := by
  have hg : (getObj M).run Tryz.prog w = .ok (.map #[] clock) w := by simp [getObj, Sem.run, hM]
  have hg2 : (getObj r).run Tryz.prog w = .ok (.mapIter (some M) clock #[] clock) w := by simp [getObj, Sem.run, hr]
  simp [Instr.next, Sem.run_bind, hg, hg2, Result.andThen, choose, Sem.run, Question.forced]
set_option maxHeartbeats 400000 in
theorem values92 (y : Value) (bx M clock : Nat) (w : World) (hb : Boxed w bx 97 (.map (some M))) (hM : w.heap[M]? = some (.map #[] clock)) :
    Calls Tryz.prog 92 #[y, .pointer (some ⟨bx, 0, none⟩)] w fun e w' => e = .returned (.tuple #[]) ∧ Below w.heap.size w w' := by
  have hc := hb.cell
  have h1 := run_range97 M clock w hM
  have hMl := (Array.getElem?_eq_some_iff.1 hM).1
  have h2 := fun ty => run_next_none M clock w.heap.size ty (w.alloc (.mapIter (some M) clock #[] clock)) (by rw [heap_old _ _ _ hMl]; exact hM) (heap_new _ _ _ rfl)
  go_enter Tryz.func92, Tryz.ntmps92
  go_wp2
  refine wp_loop_rounds 1 ?_
  rw [rounds_succ]
  go_wp2
  go_end0
  exact ⟨rfl, (Below.refl _ _).alloc (Nat.le_refl _) _⟩
theorem ent92 : ∀ (args : Array Value) (w : World), (callFunc 92 args).run Tryz.prog w = .ok (.enter 92 args) w := enters_of Tryz.func92 (by kernel_rfl) rfl
theorem putObj_below {B : Nat} {a w : World} (h : Below B a w) {r : Nat} (hr : B ≤ r) (o : Obj) : Below B a (w.putObj r o) :=
  h.trans ⟨rfl, rfl, rfl, by simp, fun k hk => World.putObj_heap_other (by omega)⟩
set_option maxHeartbeats 400000 in
theorem appendSeq94 (bx M clock : Nat) (w : World) (hb : Boxed w bx 97 (.map (some M))) (hM : w.heap[M]? = some (.map #[] clock)) :
    Calls Tryz.prog 94 #[.slice none 0 0, .func (.func 92) #[] #[.pointer (some ⟨bx, 0, none⟩)]] w fun e w' => e = .returned (.slice none 0 0) ∧ Below w.heap.size w w' := by
  refine (callsIn_wide (n := 0)).1 ?_
  refine callsIn_of_wp_marks Tryz.func94 rfl trivial ?_
  simp only [Tryz.ntmps94, List.size_toArray, List.length_cons, List.length_nil, Nat.reduceAdd, Nat.reduceSub, Array.replicate_succ, Array.replicate_zero, List.push_toArray, List.append_toArray, List.nil_append, List.cons_append]
  gi_wp2
  refine range_law 92 #[.pointer (some ⟨bx, 0, none⟩)] rfl ent92 (fun fn => ?_)
  have hb0 : Below w.heap.size w (w.alloc (.cells #[.slice none 0 0] 107)) := (Below.refl _ _).alloc (Nat.le_refl _) _
  generalize hw1 : w.alloc (.cells #[.slice none 0 0] 107) = w1 at hb0
  have hs1 : w1.heap.size = w.heap.size + 1 := by rw [← hw1]; simp
  have hbox : Boxed w1 w.heap.size 107 (.slice none 0 0) := by rw [← hw1]; exact Boxed.new _ _ _
  generalize hr : (Obj.loop _) = rec
  have hb1 : Below w1.heap.size w1 ((w1.alloc (.deferred (some []))).alloc rec) := ((Below.refl _ _).alloc (Nat.le_refl _) _).alloc (by simp) _
  refine (values92 _ bx M clock _ ((hb1.block bx (by have := hb.lt; omega)).trans ((hb0.block bx hb.lt).trans hb)) ((hb1.block M (by have := (Array.getElem?_eq_some_iff.1 hM).1; omega)).trans ((hb0.block M (Array.getElem?_eq_some_iff.1 hM).1).trans hM))).mono ?_
  rintro e w2 ⟨rfl, hb2⟩
  have hl2 : w2.heap[w1.heap.size + 1]? = some rec := (hb2.block _ (by simp)).trans (heap_new (w1.alloc (.deferred (some []))) rec _ (by simp))
  have hd2 : w2.heap[w1.heap.size]? = some (.deferred (some [])) := (hb2.block _ (by simp <;> omega)).trans ((heap_old (w1.alloc (.deferred (some []))) rec _ (by simp)).trans (heap_new w1 _ _ rfl))
  have hx2 : Boxed w2 w.heap.size 107 (.slice none 0 0) := (hb2.block _ (by simp; omega)).trans ((hb1.block _ (by omega)).trans hbox)
  refine ⟨⟨_, rfl⟩, hl2, ?_⟩
  clear hr
  have hb3 : Below w.heap.size w w2 := (hb0.trans (hb1.mono (by omega))).trans (hb2.mono (by simp <;> omega))
  have hx3 : ∀ o, Boxed (w2.putObj (w1.heap.size + 1) o) w.heap.size 107 (.slice none 0 0) := fun o => (World.putObj_heap_other (by omega)).trans hx2
  have hd3 : ∀ o, (w2.putObj (w1.heap.size + 1) o).heap[w1.heap.size]? = some (.deferred (some [])) := fun o => (World.putObj_heap_other (by omega)).trans hd2
  have hb4 : ∀ o, Below w.heap.size w (w2.putObj (w1.heap.size + 1) o) := fun o => putObj_below hb3 (by omega) o
  generalize (Obj.loop _) = rec2
  have hx4 := (hx3 rec2).cell
  have hd4 := hd3 rec2
  have hb5 := hb4 rec2
  clear hx3 hd3 hb4
  generalize w2.putObj (w1.heap.size + 1) rec2 = w3 at hx4 hd4 hb5 ⊢
  dsimp only [List.cons_append, List.nil_append]
  gi_wp2
  refine ⟨by simp, .inl ⟨_, _, rfl, run_takeDeferred hd4, ?_⟩⟩
  exact ⟨_, results_tmp rfl _ _ _, rfl, putObj_below hb5 (by omega) _⟩

theorem collect90 (bx M clock : Nat) (w : World) (hb : Boxed w bx 97 (.map (some M))) (hM : w.heap[M]? = some (.map #[] clock)) :
    Calls Tryz.prog 90 #[.func (.func 92) #[] #[.pointer (some ⟨bx, 0, none⟩)]] w fun e w' => e = .returned (.slice none 0 0) ∧ Below w.heap.size w w' := by
  have hc := appendSeq94 bx M clock w hb hM
  go_enter Tryz.func90, Tryz.ntmps90
  go_wp2_with (go_at_call 94; refine hc.mono ?_; rintro e w1 ⟨rfl, hb1⟩)
  go_ret
  exact ⟨rfl, hb1⟩
set_option maxRecDepth 100000 in
theorem len107 (w : World) : Calls Tryz.prog 107 #[.int .u64 0] w fun e w' => e = .returned (.int .i64 0) ∧ w = w' := by
  go_enter Tryz.func107, Tryz.ntmps107
  go_wp2
  go_ret
  refine ⟨?_, rfl⟩
  kernel_rfl
theorem len96 (w : World) : Calls Tryz.prog 96 #[.int .u64 0] w fun e w' => e = .returned (.int .i64 0) ∧ w = w' := by
  go_enter Tryz.func96, Tryz.ntmps96
  go_wp2_with (go_at_call 107; refine (len107 _).mono ?_; rintro e w' ⟨rfl, rfl⟩)
  go_ret
  exact ⟨rfl, rfl⟩
theorem insertion98 (f : Value) (w : World) : Calls Tryz.prog 98 #[.slice none 0 0, .int .i64 0, .int .i64 0, f] w fun e w' => e = .returned (.tuple #[]) ∧ w = w' := by
  go_enter Tryz.func98, Tryz.ntmps98
  go_wp2
  refine wp_loop_rounds 1 ?_
  rw [rounds_succ]
  go_wp2
  go_end0
  exact ⟨rfl, rfl⟩
set_option maxRecDepth 100000 in
theorem pdq95 (f : Value) (n : Int) (w : World) : Calls Tryz.prog 95 #[.slice none 0 0, .int .i64 0, .int .i64 0, .int .i64 n, f] w fun e w' => e = .returned (.tuple #[]) ∧ w = w' := by
  go_enter Tryz.func95, Tryz.ntmps95
  go_wp2
  refine wp_loop_rounds 1 ?_
  rw [rounds_succ]
  go_wp2_with (go_at_call 98; refine (insertion98 _ _).mono ?_; rintro e w' ⟨rfl, rfl⟩)
  refine bodyPost_ret (results_none rfl _ _ _) rfl ?_
  exact ⟨rfl, rfl⟩
theorem sort91 (f : Value) (w : World) : Calls Tryz.prog 91 #[.slice none 0 0, f] w fun e w' => e = .returned (.tuple #[]) ∧ w = w' := by
  go_enter Tryz.func91, Tryz.ntmps91
  go_wp2_with (first | (go_at_call 96; refine (len96 _).mono ?_; rintro e w' ⟨rfl, rfl⟩) | (go_at_call 95; refine (pdq95 _ _ _).mono ?_; rintro e w' ⟨rfl, rfl⟩))
  go_end0
  exact ⟨rfl, rfl⟩
theorem sorted85 (f : Value) (bx M clock : Nat) (w : World) (hb : Boxed w bx 97 (.map (some M))) (hM : w.heap[M]? = some (.map #[] clock)) :
    Calls Tryz.prog 85 #[.func (.func 92) #[] #[.pointer (some ⟨bx, 0, none⟩)], f] w fun e w' => e = .returned (.slice none 0 0) ∧ Below w.heap.size w w' := by
  have hc := collect90 bx M clock w hb hM
  go_enter Tryz.func85, Tryz.ntmps85
  go_wp2_with (first | (go_at_call 90; refine hc.mono ?_; rintro e w1 ⟨rfl, hb1⟩) | (go_at_call 91; refine (sort91 _ _).mono ?_; rintro e w' ⟨rfl, rfl⟩))
  go_ret
  exact ⟨rfl, hb1⟩
theorem values86 (m : Option Nat) (w : World) :
    Calls Tryz.prog 86 #[.map m] w fun e w' => e = .returned (.func (.func 92) #[] #[.pointer (some ⟨w.heap.size, 0, none⟩)]) ∧ w.alloc (.cells #[.map m] 97) = w' := by
  go_enter Tryz.func86, Tryz.ntmps86
  go_wp2
  go_ret
  exact ⟨rfl, rfl⟩
theorem values84 (w : World) :
    Calls Tryz.prog 84 #[.slice none 0 0] w fun e w' => e = .returned (.func (.func 89) #[] #[.pointer (some ⟨w.heap.size, 0, none⟩)]) ∧ w.alloc (.cells #[.slice none 0 0] 107) = w' := by
  go_enter Tryz.func84, Tryz.ntmps84
  go_wp2
  go_ret
  exact ⟨rfl, rfl⟩
theorem each89 (y : Value) (bx : Nat) (w : World) (hb : Boxed w bx 107 (.slice none 0 0)) :
    Calls Tryz.prog 89 #[y, .pointer (some ⟨bx, 0, none⟩)] w fun e w' => e = .returned (.tuple #[]) ∧ w = w' := by
  have hc := hb.cell
  go_enter Tryz.func89, Tryz.ntmps89
  go_wp2
  refine wp_loop_rounds 1 ?_
  rw [rounds_succ]
  go_wp2
  go_end0
  exact ⟨rfl, rfl⟩
theorem hashAll80 (M clock : Nat) (w : World) (hM : w.heap[M]? = some (.map #[] clock)) :
    Calls Tryz.prog 80 #[.map (some M)] w fun e w' => ∃ bx, e = .returned (.func (.func 89) #[] #[.pointer (some ⟨bx, 0, none⟩)]) ∧ w.heap.size ≤ bx ∧ Boxed w' bx 107 (.slice none 0 0) ∧ Below w.heap.size w w' := by
  have hb0 : Below w.heap.size w (w.alloc (.cells #[.map (some M)] 97)) := (Below.refl _ _).alloc (Nat.le_refl _) _
  have hs := sorted85 (.func (.func 87) #[] #[]) w.heap.size M clock (w.alloc (.cells #[.map (some M)] 97)) (Boxed.new _ _ _) ((hb0.block M (Array.getElem?_eq_some_iff.1 hM).1).trans hM)
  go_enter Tryz.func80, Tryz.ntmps80
  go_wp2_with (first | (go_at_call 86; refine (values86 _ _).mono ?_; rintro e w1 ⟨rfl, rfl⟩) | (go_at_call 85; refine hs.mono ?_; rintro e w2 ⟨rfl, hb2⟩) | (go_at_call 84; refine (values84 _).mono ?_; rintro e w3 ⟨rfl, rfl⟩))
  go_ret
  have := hb2.size
  exact ⟨_, rfl, by simp at this; omega, Boxed.new _ _ _, (hb0.trans (hb2.mono (by simp))).alloc (by simp at this; omega) _⟩
theorem meth80 (m : Option Nat) (w : World) : (method 295 97 (.map m) "swingbridge/table.all").run Tryz.prog w = .ok (80, .map m) w := by kernel_rfl
theorem ent89 : ∀ (args : Array Value) (w : World), (callFunc 89 args).run Tryz.prog w = .ok (.enter 89 args) w := enters_of Tryz.func89 (by kernel_rfl) rfl
theorem ent59 : ∀ (args : Array Value) (w : World), (callFunc 59 args).run Tryz.prog w = .ok (.enter 59 args) w := enters_of Tryz.func59 (by kernel_rfl) rfl
set_option maxHeartbeats 400000 in
theorem tabAll59hash (y1 : Nat) (b1 T M clock : Nat) (w : World) (c0 c1 c2 c3 c4 : Value) (hb : Boxed w b1 69 (.pointer (some ⟨T, 0, none⟩))) (hT : w.heap[T]? = some (.cells #[c0, c1, c2, c3, c4, .iface 97 (.map (some M))] 101 (0, 0))) (hM : w.heap[M]? = some (.map #[] clock)) :
    Calls Tryz.prog 59 #[.func (.yield y1) #[] #[], .pointer (some ⟨b1, 0, none⟩)] w fun e w' => e = .returned (.tuple #[]) ∧ Below w.heap.size w w' := by
  refine (callsIn_wide (n := 0)).1 ?_
  refine callsIn_of_wp_marks Tryz.func59 rfl trivial ?_
  simp only [Tryz.ntmps59, List.size_toArray, List.length_cons, List.length_nil, Nat.reduceAdd, Nat.reduceSub, Array.replicate_succ, Array.replicate_zero, List.push_toArray, List.append_toArray, List.nil_append, List.cons_append]
  obtain ⟨t0, t1, t2, t3, t4, t5⟩ := cells6 hT
  have hbc := hb.cell
  have hbl := hb.lt
  have hTl := (Array.getElem?_eq_some_iff.1 hT).1
  have hm := meth80 (some M)
  gi_wp2_with (fail)
  refine ⟨trivial, rfl, ?_⟩
  have hb0 : Below w.heap.size w (w.alloc (.cells #[.func (.yield y1) #[] #[]] 127)) := (Below.refl _ _).alloc (Nat.le_refl _) _
  refine (callsIn_wide.2 (hashAll80 M clock _ ((hb0.block M (Array.getElem?_eq_some_iff.1 hM).1).trans hM))).mono ?_
  rintro e w1 ⟨bx, rfl, hbx, hbox, hb1⟩
  have hb1 := hb0.trans (hb1.mono hb0.size)
  gi_wp2
  refine range_law 89 #[.pointer (some ⟨bx, 0, none⟩)] rfl ent89 (fun fn => ?_)
  generalize hr : (Obj.loop _) = rec
  have hb2 : Below w1.heap.size w1 ((w1.alloc (.deferred (some []))).alloc rec) := ((Below.refl _ _).alloc (Nat.le_refl _) _).alloc (by simp) _
  refine (each89 _ bx _ ((hb2.block bx hbox.lt).trans hbox)).mono ?_
  rintro e w2 ⟨rfl, rfl⟩
  refine ⟨⟨_, rfl⟩, heap_new (w1.alloc (.deferred (some []))) rec _ (by simp), ?_⟩
  clear hr
  have hs1 := hb1.size
  have hd2 : ((w1.alloc (.deferred (some []))).alloc rec).heap[w1.heap.size]? = some (.deferred (some [])) := (heap_old (w1.alloc (.deferred (some []))) rec _ (by simp)).trans (heap_new w1 _ _ rfl)
  have hb4 : ∀ o, Below w.heap.size w (((w1.alloc (.deferred (some []))).alloc rec).putObj (w1.heap.size + 1) o) := fun o => putObj_below (hb1.trans (hb2.mono hs1)) (by omega) o
  have hd3 : ∀ o, (((w1.alloc (.deferred (some []))).alloc rec).putObj (w1.heap.size + 1) o).heap[w1.heap.size]? = some (.deferred (some [])) := fun o => (World.putObj_heap_other (by omega)).trans hd2
  generalize (Obj.loop _) = rec2
  have hd4 := hd3 rec2
  have hb5 := hb4 rec2
  clear hd3 hb4 hd2
  generalize ((w1.alloc (.deferred (some []))).alloc rec).putObj (w1.heap.size + 1) rec2 = w3 at hd4 hb5 ⊢
  dsimp only [List.cons_append, List.nil_append]
  gi_wp2
  refine ⟨by simp, .inl ⟨_, _, rfl, run_takeDeferred hd4, ?_⟩⟩
  exact ⟨_, results_none rfl _ _ _, rfl, putObj_below hb5 (by omega) _⟩
theorem all56 (p : Option Addr) (w : World) :
    Calls Tryz.prog 56 #[.pointer p] w fun e w' => e = .returned (.func (.func 59) #[] #[.pointer (some ⟨w.heap.size, 0, none⟩)]) ∧ w.alloc (.cells #[.pointer p] 69) = w' := by
  go_enter Tryz.func56, Tryz.ntmps56
  go_wp2
  go_ret
  exact ⟨rfl, rfl⟩
set_option maxHeartbeats 400000 in
theorem snapshot46hash (T M clock : Nat) (w : World) (c0 c1 c2 c3 c4 : Value) (hT : w.heap[T]? = some (.cells #[c0, c1, c2, c3, c4, .iface 97 (.map (some M))] 101 (0, 0))) (hM : w.heap[M]? = some (.map #[] clock)) :
    Calls Tryz.prog 46 #[.pointer (some ⟨T, 0, none⟩)] w fun e w' => e = .returned (.slice none 0 0) ∧ Below w.heap.size w w' := by
  refine (callsIn_wide (n := 0)).1 ?_
  refine callsIn_of_wp_marks Tryz.func46 rfl trivial ?_
  simp only [Tryz.ntmps46, List.size_toArray, List.length_cons, List.length_nil, Nat.reduceAdd, Nat.reduceSub, Array.replicate_succ, Array.replicate_zero, List.push_toArray, List.append_toArray, List.nil_append, List.cons_append]
  have hTl := (Array.getElem?_eq_some_iff.1 hT).1
  have hMl := (Array.getElem?_eq_some_iff.1 hM).1
  gi_wp2_with (refine ⟨trivial, rfl, ?_⟩; gi_at_call 56; refine (callsIn_wide.2 (all56 _ _)).mono ?_; rintro e w1 ⟨rfl, rfl⟩)
  have hb0 : Below w.heap.size w ((w.alloc (.cells #[.slice none 0 0] 28)).alloc (.cells #[.pointer (some ⟨T, 0, none⟩)] 69)) := ((Below.refl _ _).alloc (Nat.le_refl _) _).alloc (by simp) _
  have hx0 : Boxed ((w.alloc (.cells #[.slice none 0 0] 28)).alloc (.cells #[.pointer (some ⟨T, 0, none⟩)] 69)) w.heap.size 28 (.slice none 0 0) := (Boxed.new _ _ _).alloc _
  have hx1 : Boxed ((w.alloc (.cells #[.slice none 0 0] 28)).alloc (.cells #[.pointer (some ⟨T, 0, none⟩)] 69)) (w.alloc (.cells #[.slice none 0 0] 28)).heap.size 69 (.pointer (some ⟨T, 0, none⟩)) := Boxed.new _ _ _
  rw [World.size_alloc] at hx1
  refine range_law 59 #[.pointer (some ⟨w.heap.size + 1, 0, none⟩)] rfl ent59 (fun fn => ?_)
  generalize hw1 : (w.alloc (.cells #[.slice none 0 0] 28)).alloc (.cells #[.pointer (some ⟨T, 0, none⟩)] 69) = w1 at hb0 hx0 hx1
  have hs1 : w1.heap.size = w.heap.size + 2 := by rw [← hw1]; simp
  generalize hr : (Obj.loop _) = rec
  have hb2 : Below w1.heap.size w1 ((w1.alloc (.deferred (some []))).alloc rec) := ((Below.refl _ _).alloc (Nat.le_refl _) _).alloc (by simp) _
  have hs2 : ((w1.alloc (.deferred (some []))).alloc rec).heap.size = w1.heap.size + 2 := by simp
  have hd2 : ((w1.alloc (.deferred (some []))).alloc rec).heap[w1.heap.size]? = some (.deferred (some [])) := (heap_old (w1.alloc (.deferred (some []))) rec _ (by simp)).trans (heap_new w1 _ _ rfl)
  have hl2 : ((w1.alloc (.deferred (some []))).alloc rec).heap[w1.heap.size + 1]? = some rec := heap_new (w1.alloc (.deferred (some []))) rec _ (by simp)
  have hb12 := hb0.trans (hb2.mono (by omega))
  refine (tabAll59hash (w1.heap.size + 1) (w.heap.size + 1) T M clock _ c0 c1 c2 c3 c4 ((hb2.block _ (by omega)).trans hx1) ((hb12.block T hTl).trans hT) ((hb12.block M hMl).trans hM)).mono ?_
  rintro e w2 ⟨rfl, hb3⟩
  have hx2 : Boxed w2 w.heap.size 28 (.slice none 0 0) := (hb3.block _ (by omega)).trans ((hb2.block _ (by omega)).trans hx0)
  have hd3 := (hb3.block _ (by omega)).trans hd2
  refine ⟨⟨_, rfl⟩, (hb3.block _ (by omega)).trans hl2, ?_⟩
  have hb123 := hb12.trans (hb3.mono (by omega))
  clear hr hb2 hb3 hl2 hb12
  have hb4 : ∀ o, Below w.heap.size w (w2.putObj (w1.heap.size + 1) o) := fun o => putObj_below hb123 (by omega) o
  have hd4 : ∀ o, (w2.putObj (w1.heap.size + 1) o).heap[w1.heap.size]? = some (.deferred (some [])) := fun o => (World.putObj_heap_other (by omega)).trans hd3
  have hx4 : ∀ o, Boxed (w2.putObj (w1.heap.size + 1) o) w.heap.size 28 (.slice none 0 0) := fun o => (World.putObj_heap_other (by omega)).trans hx2
  generalize (Obj.loop _) = rec2
  have hd5 := hd4 rec2
  have hb5 := hb4 rec2
  have hx5 := (hx4 rec2).cell
  clear hd4 hb4 hx4 hb123 hx2 hd3
  generalize w2.putObj (w1.heap.size + 1) rec2 = w3 at hd5 hb5 hx5 ⊢
  dsimp only [List.cons_append, List.nil_append]
  gi_wp2
  refine ⟨by simp, .inl ⟨_, _, rfl, run_takeDeferred hd5, ?_⟩⟩
  exact ⟨_, results_tmp rfl _ _ _, rfl, putObj_below hb5 (by omega) _⟩
end Go.Proofs.YtfhjffkcobmkaaaGreat
