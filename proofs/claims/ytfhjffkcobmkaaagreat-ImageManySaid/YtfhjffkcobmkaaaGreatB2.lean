/- Contracts of the list of an LRU where a key comes that was not there (lru.use, Peek, last, Put) and of the table kind over it (recent.peek, recent.add), and of slices.Clone at bytes. -/
import Derived.WalkKit
import Derived.Lib.Hide
import Derived.WalkLawsBesides
import Derived.WalkSpells
import Derived.BigQuiet
import Derived.Deep.QuietTactic
import Derived.Handy
import Derived.RangeFuncBox
import Derived.Shelf.Abstract
import Derived.Deep.RegionWith
import Derived.StillTailTactics
import Derived.Test.YtfhjffkcobmkaaaGreatB1
set_option linter.unusedVariables false
set_option linter.unusedSimpArgs false
namespace Go.Proofs.YtfhjffkcobmkaaaGreat
open Go.RowKit
def NoKey (es : Array MapEntry) (k : ByteArray) : Prop := Instr.findNow .string (.string k) es.toList 0 = some none
theorem run_check (b : Bool) (k : ByteArray) (w : World) : (Instr.checkKey b 10000 9 (.string k)).run Tryz.prog w = .ok () w := by
  have h2 := run_underlying Tryz.underlying9 (w := w)
  show (Instr.checkKey b (9999 + 1) 9 (.string k)).run Tryz.prog w = .ok () w
  rw [Instr.checkKey]
  simp [Sem.run_bind, h2, Result.andThen]
theorem run_lookup_no (es : Array MapEntry) (clock M : Nat) (k : ByteArray) (w : World) (hM : w.heap[M]? = some (.map es clock)) (hk : NoKey es k) :
    (Instr.lookup 121 (.map (some M)) (.string k) false).run Tryz.prog w = .ok (.pointer none) w := by
  have hz : (zeroValue 122).run Tryz.prog w = .ok (.pointer none) w := by kernel_rfl
  have h1 := run_underlying Tryz.underlying121 (w := w)
  have h2 := run_underlying Tryz.underlying9 (w := w)
  have hg : (getObj M).run Tryz.prog w = .ok (.map es clock) w := by simp [getObj, Sem.run, hM]
  unfold NoKey at hk
  simp [Instr.lookup, Sem.run_bind, h1, hg, run_check, h2, Instr.findKey, hk, hz, Result.andThen]
theorem run_mapUpdate_no (es : Array MapEntry) (clock M : Nat) (k : ByteArray) (v : Value) (w : World) (hM : w.heap[M]? = some (.map es clock)) (hk : NoKey es k) :
    (Instr.mapUpdate 121 (.map (some M)) (.string k) v).run Tryz.prog w = .ok () (w.putObj M (.map (es.push ⟨.string k, v, clock⟩) (clock + 1))) := by
  have h1 := run_underlying Tryz.underlying121 (w := w)
  have h2 := run_underlying Tryz.underlying9 (w := w)
  have hg : (getObj M).run Tryz.prog w = .ok (.map es clock) w := by simp [getObj, Sem.run, hM]
  have hs : (setObj M (.map (es.push ⟨.string k, v, clock⟩) (clock + 1))).run Tryz.prog w = .ok () (w.putObj M (.map (es.push ⟨.string k, v, clock⟩) (clock + 1))) := by simp [setObj, Sem.run, hM, World.putObj]
  unfold NoKey at hk
  simp [Instr.mapUpdate, Sem.run_bind, h1, hg, hs, run_check, h2, Instr.findKey, hk, Result.andThen]
theorem value131nil (w : World) : Calls Tryz.prog 131 #[.pointer none] w fun e w' => e = .returned (.tuple #[.pointer none, .bool false]) ∧ w = w' := by
  go_enter Tryz.func131, Tryz.ntmps131
  go_wp2
  go_ret2
  exact ⟨rfl, rfl⟩
/-- the six cells of a list -/
structure LAt (w : World) (L M : Nat) (m : Int) (prev next : Addr) : Prop where
  h : w.heap[L]? = some (.cells (listCells L M m prev next) 126 (0, 0))
theorem use126 (L M clock : Nat) (m : Int) (prev next : Addr) (es : Array MapEntry) (k : ByteArray) (w : World) (hL : LAt w L M m prev next) (hM : w.heap[M]? = some (.map es clock)) (hk : NoKey es k) :
    Calls Tryz.prog 126 #[.pointer (some ⟨L, 0, none⟩), .string k] w fun e w' => e = .returned (.pointer none) ∧ w = w' := by
  obtain ⟨z0, z1, z2, z3, z4, z5⟩ := cells6 hL.h
  have hl := run_lookup_no es clock M k w hM hk
  go_enter Tryz.func126, Tryz.ntmps126
  go_wp2
  go_ret
  exact ⟨rfl, rfl⟩
theorem peek124 (L M clock : Nat) (m : Int) (prev next : Addr) (es : Array MapEntry) (k : ByteArray) (w : World) (hL : LAt w L M m prev next) (hM : w.heap[M]? = some (.map es clock)) (hk : NoKey es k) :
    Calls Tryz.prog 124 #[.pointer (some ⟨L, 0, none⟩), .string k] w fun e w' => e = .returned (.tuple #[.pointer none, .bool false]) ∧ w = w' := by
  obtain ⟨z0, z1, z2, z3, z4, z5⟩ := cells6 hL.h
  have hl := run_lookup_no es clock M k w hM hk
  go_enter Tryz.func124, Tryz.ntmps124
  go_wp2_with (go_at_call 131; refine (value131nil _).mono ?_; rintro e w' ⟨rfl, rfl⟩)
  go_ret2
  exact ⟨rfl, rfl⟩
theorem LAt.later {w w' : World} {L M : Nat} {m : Int} {prev next : Addr} (h : LAt w L M m prev next) (hb : Below w.heap.size w w') : LAt w' L M m prev next := ⟨(hb.block L (Array.getElem?_eq_some_iff.1 h.h).1).trans h.h⟩
theorem peek118 (L M clock : Nat) (m : Int) (prev next : Addr) (es : Array MapEntry) (k : ByteArray) (w : World) (hL : LAt w L M m prev next) (hM : w.heap[M]? = some (.map es clock)) (hk : NoKey es k) :
    Calls Tryz.prog 118 #[.agg #[.pointer (some ⟨L, 0, none⟩)], .string k] w fun e w' => e = .returned (.pointer none) ∧ Below w.heap.size w w' := by
  have hb0 : Below w.heap.size w (w.alloc (.cells #[.pointer (some ⟨L, 0, none⟩)] 106)) := (Below.refl _ _).alloc (Nat.le_refl _) _
  have hp := peek124 L M clock m prev next es k _ (hL.later hb0) ((hb0.block M (Array.getElem?_eq_some_iff.1 hM).1).trans hM) hk
  go_enter Tryz.func118, Tryz.ntmps118
  go_wp2_with fail
  refine hp.mono ?_
  rintro e w' ⟨rfl, rfl⟩
  go_wp2
  go_ret
  exact ⟨rfl, hb0⟩
theorem setCell_heap {w : World} {b : Nat} {cs : Array Value} {t : TypeId} {f : Nat × Nat} (h : w.heap[b]? = some (.cells cs t f)) (o : Nat) (v : Value) : (w.setCell ⟨b, o, none⟩ v).heap[b]? = some (.cells (cs.setIfInBounds o v) t f) := by
  obtain ⟨hlt, hk⟩ := Array.getElem?_eq_some_iff.1 h
  show (w.heap.modify b _)[b]? = _
  rw [Array.getElem?_eq_getElem (by rw [Array.size_modify]; exact hlt), Array.getElem_modify_self, hk]
  rfl
theorem setCell_other (w : World) (b o k : Nat) (v : Value) (h : k ≠ b) : (w.setCell ⟨b, o, none⟩ v).heap[k]? = w.heap[k]? := Below.heap_setCell w ⟨b, o, none⟩ v k h
theorem unfrozen {w : World} {b : Nat} {cs : Array Value} {t : TypeId} (h : w.heap[b]? = some (.cells cs t (0, 0))) (o : Nat) : w.frozen? ⟨b, o, none⟩ = false := by simp [World.frozen?, h]
theorem cells4 {w : World} {b : Nat} {t : TypeId} {f : Nat × Nat} {c0 c1 c2 c3 : Value} (h : w.heap[b]? = some (.cells #[c0, c1, c2, c3] t f)) :
    w.cell? ⟨b, 0, none⟩ = some c0 ∧ w.cell? ⟨b, 1, none⟩ = some c1 ∧ w.cell? ⟨b, 2, none⟩ = some c2 ∧ w.cell? ⟨b, 3, none⟩ = some c3 := by
  simp [World.cell?, h]
theorem drew_heap (w : World) : w.drew.heap = w.heap := rfl
/-- what the blocks of S alone may have turned -/
structure Turns (S : Nat → Prop) (w w' : World) : Prop where
  os : w'.os = w.os
  tape : w'.tape = w.tape
  output : w'.output = w.output
  size : w.heap.size ≤ w'.heap.size
  block : ∀ k, k < w.heap.size → ¬ S k → w'.heap[k]? = w.heap[k]?
theorem Turns.trans {S : Nat → Prop} {a b c : World} (h : Turns S a b) (k : Turns S b c) : Turns S a c :=
  ⟨k.os.trans h.os, k.tape.trans h.tape, k.output.trans h.output, Nat.le_trans h.size k.size, fun i hi hs => (k.block i (Nat.lt_of_lt_of_le hi h.size) hs).trans (h.block i hi hs)⟩
theorem Turns.mono {S S' : Nat → Prop} {a b : World} (h : Turns S a b) (hs : ∀ k, k < a.heap.size → S k → S' k) : Turns S' a b :=
  ⟨h.os, h.tape, h.output, h.size, fun k hk hn => h.block k hk fun h' => hn (hs k hk h')⟩
theorem Turns.refl (S : Nat → Prop) (a : World) : Turns S a a := ⟨rfl, rfl, rfl, Nat.le_refl _, fun _ _ _ => rfl⟩
theorem Turns.of_below {S : Nat → Prop} {a b : World} (h : Below a.heap.size a b) : Turns S a b := ⟨h.os, h.tape, h.output, h.size, fun k hk _ => h.block k hk⟩
theorem Turns.setCell {S : Nat → Prop} {a w : World} (h : Turns S a w) {b : Nat} (hb : S b) (o : Nat) (v : Value) : Turns S a (w.setCell ⟨b, o, none⟩ v) :=
  h.trans ⟨rfl, rfl, rfl, by simp [World.setCell], fun k _ hk => setCell_other w b o k v (fun e => hk (e ▸ hb))⟩
theorem Turns.drew {S : Nat → Prop} {a w : World} (h : Turns S a w) : Turns S a w.drew := ⟨h.os, h.tape, h.output, h.size, h.block⟩
def linkCells (k : ByteArray) (E : Nat) (prev next : Value) : Array Value := #[.string k, .pointer (some ⟨E, 0, none⟩), prev, next]
set_option maxHeartbeats 400000 in
theorem last127first (L M X E : Nat) (m : Int) (k : ByteArray) (w : World) (hL : LAt w L M m ⟨L, 1, none⟩ ⟨L, 1, none⟩) (hX : w.heap[X]? = some (.cells (linkCells k E (.pointer none) (.pointer none)) 124 (0, 0))) :
    Calls Tryz.prog 127 #[.pointer (some ⟨L, 0, none⟩), .pointer (some ⟨X, 0, none⟩)] w fun e w' => e = .returned (.tuple #[]) ∧ LAt w' L M m ⟨X, 0, none⟩ ⟨X, 0, none⟩ ∧
      w'.heap[X]? = some (.cells (linkCells k E (.pointer (some ⟨L, 1, none⟩)) (.pointer (some ⟨L, 1, none⟩))) 124 (0, 0)) ∧ Turns (fun b => b = L ∨ b = X) w w' := by
  obtain ⟨z0, z1, z2, z3, z4, z5⟩ := cells6 hL.h
  obtain ⟨y0, y1, y2, y3⟩ := cells4 hX
  have f1 := unfrozen hL.h
  have f2 := unfrozen hX
  have hne : L ≠ X := by rintro rfl; have := hL.h.symm.trans hX; simp at this
  have hne' : X ≠ L := hne.symm
  go_enter Tryz.func127, Tryz.ntmps127
  go_wp2_with fail
  go_region
  go_wp2_with fail
  go_end0
  have q1 := setCell_heap (setCell_heap hX 2 (.pointer (some ⟨L, 1, none⟩))) 3 (.pointer (some ⟨L, 1, none⟩))
  have q2 := (setCell_other (w.setCell ⟨X, 2, none⟩ (.pointer (some ⟨L, 1, none⟩))) X 3 L (.pointer (some ⟨L, 1, none⟩)) hne).trans ((setCell_other w X 2 L (.pointer (some ⟨L, 1, none⟩)) hne).trans hL.h)
  have q3 := setCell_heap (setCell_heap q2 4 (.pointer (some ⟨X, 0, none⟩))) 3 (.pointer (some ⟨X, 0, none⟩))
  refine ⟨rfl, ⟨q3⟩, ?_, ?_⟩
  · rw [drew_heap, setCell_other _ L 3 X _ hne', setCell_other _ L 4 X _ hne']; exact q1
  · exact (((((Turns.refl _ w).setCell (.inr rfl) 2 _).setCell (.inr rfl) 3 _).setCell (.inl rfl) 4 _).setCell (.inl rfl) 3 _).drew
set_option maxHeartbeats 400000 in
theorem last127more (L M X E Y F : Nat) (m : Int) (k k' : ByteArray) (p next : Addr) (nx : Value) (w : World) (hL : LAt w L M m ⟨Y, 0, none⟩ next) (hX : w.heap[X]? = some (.cells (linkCells k E (.pointer none) (.pointer none)) 124 (0, 0)))
    (hY : w.heap[Y]? = some (.cells (linkCells k' F (.pointer (some p)) nx) 124 (0, 0))) (hXY : X ≠ Y) :
    Calls Tryz.prog 127 #[.pointer (some ⟨L, 0, none⟩), .pointer (some ⟨X, 0, none⟩)] w fun e w' => e = .returned (.tuple #[]) ∧ LAt w' L M m ⟨X, 0, none⟩ next ∧
      w'.heap[X]? = some (.cells (linkCells k E (.pointer (some ⟨Y, 0, none⟩)) (.pointer (some ⟨L, 1, none⟩))) 124 (0, 0)) ∧
      w'.heap[Y]? = some (.cells (linkCells k' F (.pointer (some p)) (.pointer (some ⟨X, 0, none⟩))) 124 (0, 0)) ∧ Turns (fun b => b = L ∨ b = X ∨ b = Y) w w' := by
  obtain ⟨z0, z1, z2, z3, z4, z5⟩ := cells6 hL.h
  obtain ⟨y0, y1, y2, y3⟩ := cells4 hX
  obtain ⟨x0, x1, x2, x3⟩ := cells4 hY
  have f1 := unfrozen hL.h
  have f2 := unfrozen hX
  have f3 := unfrozen hY
  have hne : L ≠ X := by rintro rfl; have := hL.h.symm.trans hX; simp at this
  have hne' : X ≠ L := hne.symm
  have hnY : L ≠ Y := by rintro rfl; have := hL.h.symm.trans hY; simp at this
  have hnY' : Y ≠ L := hnY.symm
  have hYX : Y ≠ X := hXY.symm
  go_enter Tryz.func127, Tryz.ntmps127
  go_wp2_with fail
  go_region
  go_wp2_with fail
  go_end0
  have q1 := setCell_heap (setCell_heap hX 2 (.pointer (some ⟨Y, 0, none⟩))) 3 (.pointer (some ⟨L, 1, none⟩))
  have q2 := (setCell_other (w.setCell ⟨X, 2, none⟩ (.pointer (some ⟨Y, 0, none⟩))) X 3 L (.pointer (some ⟨L, 1, none⟩)) hne).trans ((setCell_other w X 2 L (.pointer (some ⟨Y, 0, none⟩)) hne).trans hL.h)
  have q4 := (setCell_other (w.setCell ⟨X, 2, none⟩ (.pointer (some ⟨Y, 0, none⟩))) X 3 Y (.pointer (some ⟨L, 1, none⟩)) hYX).trans ((setCell_other w X 2 Y (.pointer (some ⟨Y, 0, none⟩)) hYX).trans hY)
  refine ⟨rfl, ⟨?_⟩, ?_, ?_, ?_⟩
  · rw [drew_heap]
    refine setCell_heap (cs := listCells L M m ⟨Y, 0, none⟩ next) ?_ 3 _
    rw [setCell_other _ Y 3 L _ hnY]; exact q2
  · rw [drew_heap, setCell_other _ L 3 X _ hne', setCell_other _ Y 3 X _ hXY]; exact q1
  · rw [drew_heap, setCell_other _ L 3 Y _ hnY']; exact setCell_heap q4 3 _
  · exact (((((Turns.refl _ w).setCell (.inr (.inl rfl)) 2 _).setCell (.inr (.inl rfl)) 3 _).setCell (.inr (.inr rfl)) 3 _).setCell (.inl rfl) 3 _).drew
theorem run_len121 (M clock : Nat) (es : Array MapEntry) (w : World) (hM : w.heap[M]? = some (.map es clock)) : (Builtin.len_ #[121] 3 #[.map (some M)]).run Tryz.prog w = .ok (.int .i64 es.size) w := by
  have h1 := run_underlying Tryz.underlying121 (w := w)
  have hg : (getObj M).run Tryz.prog w = .ok (.map es clock) w := by simp [getObj, Sem.run, hM]
  simp [Builtin.len_, Sem.run_bind, h1, hg, Result.andThen, goInt]
theorem putObj_turns {S : Nat → Prop} {a w : World} (h : Turns S a w) {r : Nat} (hr : S r) (o : Obj) : Turns S a (w.putObj r o) :=
  h.trans ⟨rfl, rfl, rfl, by simp, fun k _ hk => World.putObj_heap_other (fun e => hk (e ▸ hr))⟩
theorem Turns.alloc {S : Nat → Prop} {a w : World} (h : Turns S a w) (o : Obj) : Turns S a (w.alloc o) := h.trans (Turns.of_below ((Below.refl _ _).alloc (Nat.le_refl _) _))
set_option maxHeartbeats 400000 in
theorem put121first (L M E clock : Nat) (m : Int) (es : Array MapEntry) (k : ByteArray) (w : World) (hL : LAt w L M m ⟨L, 1, none⟩ ⟨L, 1, none⟩) (hM : w.heap[M]? = some (.map es clock)) (hk : NoKey es k) (hm : (es.size : Int) + 1 ≤ m) :
    Calls Tryz.prog 121 #[.pointer (some ⟨L, 0, none⟩), .string k, .pointer (some ⟨E, 0, none⟩)] w fun e w' => ∃ X, e = .returned (.tuple #[.string ⟨#[]⟩, .bool false]) ∧ w.heap.size ≤ X ∧ LAt w' L M m ⟨X, 0, none⟩ ⟨X, 0, none⟩ ∧
      w'.heap[X]? = some (.cells (linkCells k E (.pointer (some ⟨L, 1, none⟩)) (.pointer (some ⟨L, 1, none⟩))) 124 (0, 0)) ∧ w'.heap[M]? = some (.map (es.push ⟨.string k, .pointer (some ⟨X, 0, none⟩), clock⟩) (clock + 1)) ∧
      Turns (fun b => b = L ∨ b = M) w w' := by
  obtain ⟨z0, z1, z2, z3, z4, z5⟩ := cells6 hL.h
  have hMl := (Array.getElem?_eq_some_iff.1 hM).1
  have hLl := (Array.getElem?_eq_some_iff.1 hL.h).1
  have hLM : L ≠ M := by rintro rfl; have := hL.h.symm.trans hM; simp at this
  have hu := run_mapUpdate_no es clock M k (.pointer (some ⟨w.heap.size, 0, none⟩)) (w.alloc (.cells (linkCells k E (.pointer none) (.pointer none)) 124)) (by rw [heap_old _ _ _ hMl]; exact hM) hk
  unfold linkCells at hu
  have hl := last127first L M w.heap.size E m k ((w.alloc (.cells (linkCells k E (.pointer none) (.pointer none)) 124)).putObj M (.map (es.push ⟨.string k, .pointer (some ⟨w.heap.size, 0, none⟩), clock⟩) (clock + 1)))
    ⟨by rw [World.putObj_heap_other hLM, heap_old _ _ _ hLl]; exact hL.h⟩ (by rw [World.putObj_heap_other (by omega)]; exact heap_new _ _ _ rfl)
  go_enter Tryz.func121, Tryz.ntmps121
  go_wp2_with (go_at_call 126; refine (use126 L M clock m _ _ es k _ hL hM hk).mono ?_; rintro e w' ⟨rfl, rfl⟩)
  refine hl.mono ?_
  rintro e w3 ⟨rfl, hL3, hX3, ht3⟩
  obtain ⟨x0, x1, x2, x3, x4, x5⟩ := cells6 hL3.h
  have hM3 : w3.heap[M]? = some (.map (es.push ⟨.string k, .pointer (some ⟨w.heap.size, 0, none⟩), clock⟩) (clock + 1)) :=
    (ht3.block M (by simp; omega) (by rintro (h | h) <;> omega)).trans (World.putObj_heap_same (by simp; omega))
  clear z0 z1 z2 z3 z4 z5 hu hl
  have hlen := run_len121 M _ _ w3.drew hM3
  have hsz : (((es.push ⟨.string k, .pointer (some ⟨w.heap.size, 0, none⟩), clock⟩).size : Nat) : Int) = (es.size : Int) + 1 := by simp
  rw [hsz] at hlen
  go_wp2_with fail
  go_region
  go_wp2_with fail
  go_ret2
  refine ⟨w.heap.size, rfl, Nat.le_refl _, ⟨hL3.h⟩, hX3, hM3, Turns.drew ?_⟩
  have h0 : Turns (fun b => b = L ∨ b = M ∨ b = w.heap.size) w w3 := (putObj_turns ((Turns.refl _ w).alloc _) (by simp) _).trans (ht3.mono fun b _ hb => by rcases hb with rfl | rfl <;> simp)
  exact h0.mono fun b hb h => by rcases h with rfl | rfl | rfl <;> first | exact .inl rfl | exact .inr rfl | omega
set_option maxHeartbeats 400000 in
theorem put121more (L M E Y F clock : Nat) (m : Int) (es : Array MapEntry) (k k' : ByteArray) (p next : Addr) (nx : Value) (w : World) (hL : LAt w L M m ⟨Y, 0, none⟩ next) (hY : w.heap[Y]? = some (.cells (linkCells k' F (.pointer (some p)) nx) 124 (0, 0))) (hM : w.heap[M]? = some (.map es clock)) (hk : NoKey es k) (hm : (es.size : Int) + 1 ≤ m) :
    Calls Tryz.prog 121 #[.pointer (some ⟨L, 0, none⟩), .string k, .pointer (some ⟨E, 0, none⟩)] w fun e w' => ∃ X, e = .returned (.tuple #[.string ⟨#[]⟩, .bool false]) ∧ w.heap.size ≤ X ∧ LAt w' L M m ⟨X, 0, none⟩ next ∧
      w'.heap[X]? = some (.cells (linkCells k E (.pointer (some ⟨Y, 0, none⟩)) (.pointer (some ⟨L, 1, none⟩))) 124 (0, 0)) ∧
      w'.heap[Y]? = some (.cells (linkCells k' F (.pointer (some p)) (.pointer (some ⟨X, 0, none⟩))) 124 (0, 0)) ∧ w'.heap[M]? = some (.map (es.push ⟨.string k, .pointer (some ⟨X, 0, none⟩), clock⟩) (clock + 1)) ∧
      Turns (fun b => b = L ∨ b = M ∨ b = Y) w w' := by
  obtain ⟨z0, z1, z2, z3, z4, z5⟩ := cells6 hL.h
  have hMl := (Array.getElem?_eq_some_iff.1 hM).1
  have hLl := (Array.getElem?_eq_some_iff.1 hL.h).1
  have hYl := (Array.getElem?_eq_some_iff.1 hY).1
  have hYM : Y ≠ M := by rintro rfl; have := hY.symm.trans hM; simp at this
  have hLM : L ≠ M := by rintro rfl; have := hL.h.symm.trans hM; simp at this
  have hu := run_mapUpdate_no es clock M k (.pointer (some ⟨w.heap.size, 0, none⟩)) (w.alloc (.cells (linkCells k E (.pointer none) (.pointer none)) 124)) (by rw [heap_old _ _ _ hMl]; exact hM) hk
  unfold linkCells at hu
  have hl := last127more L M w.heap.size E Y F m k k' p next nx ((w.alloc (.cells (linkCells k E (.pointer none) (.pointer none)) 124)).putObj M (.map (es.push ⟨.string k, .pointer (some ⟨w.heap.size, 0, none⟩), clock⟩) (clock + 1)))
    ⟨by rw [World.putObj_heap_other hLM, heap_old _ _ _ hLl]; exact hL.h⟩ (by rw [World.putObj_heap_other (by omega)]; exact heap_new _ _ _ rfl) (by rw [World.putObj_heap_other hYM, heap_old _ _ _ hYl]; exact hY) (by omega)
  go_enter Tryz.func121, Tryz.ntmps121
  go_wp2_with (go_at_call 126; refine (use126 L M clock m _ _ es k _ hL hM hk).mono ?_; rintro e w' ⟨rfl, rfl⟩)
  refine hl.mono ?_
  rintro e w3 ⟨rfl, hL3, hX3, hY3, ht3⟩
  obtain ⟨x0, x1, x2, x3, x4, x5⟩ := cells6 hL3.h
  have hM3 : w3.heap[M]? = some (.map (es.push ⟨.string k, .pointer (some ⟨w.heap.size, 0, none⟩), clock⟩) (clock + 1)) :=
    (ht3.block M (by simp; omega) (by rintro (h | h | h) <;> omega)).trans (World.putObj_heap_same (by simp; omega))
  clear z0 z1 z2 z3 z4 z5 hu hl
  have hlen := run_len121 M _ _ w3.drew hM3
  have hsz : (((es.push ⟨.string k, .pointer (some ⟨w.heap.size, 0, none⟩), clock⟩).size : Nat) : Int) = (es.size : Int) + 1 := by simp
  rw [hsz] at hlen
  go_wp2_with fail
  go_region
  go_wp2_with fail
  go_ret2
  refine ⟨w.heap.size, rfl, Nat.le_refl _, ⟨hL3.h⟩, hX3, hY3, hM3, Turns.drew ?_⟩
  have h0 : Turns (fun b => b = L ∨ b = M ∨ b = Y ∨ b = w.heap.size) w w3 := (putObj_turns ((Turns.refl _ w).alloc _) (by simp) _).trans (ht3.mono fun b _ hb => by rcases hb with rfl | rfl | rfl <;> simp)
  exact h0.mono fun b hb h => by rcases h with rfl | rfl | rfl | rfl <;> first | exact .inl rfl | exact .inr (.inl rfl) | exact .inr (.inr rfl) | omega
set_option maxHeartbeats 400000 in
set_option maxRecDepth 100000 in
theorem clone55 (ad : Addr) (c : Nat) (bs : List UInt8) (w : World) (hr : ∀ j u, (bs.map u8)[j]? = some u → w.cell? (ad.add j) = some u) (hl : bs.length ≤ 1000) :
    Calls Tryz.prog 55 #[.slice (some ad) bs.length c] w fun e w' => ∃ D cap, e = .returned (.slice (some ⟨D, 0, none⟩) bs.length cap) ∧ w'.ownsRow w.heap.size 5 1 (.slice (some ⟨D, 0, none⟩) bs.length cap) bs.length (bs.map u8) ∧ Below w.heap.size w w' := by
  have hsn := fun W => @Lib.run_eql_slice_nil Tryz.prog W 28
  obtain ⟨i0, hi, hz0, hz1, hz2⟩ := info_parts Tryz.info5
  have hown : (w.alloc (.cells #[] 5)).ownsRow w.heap.size 5 1 (.slice (some ⟨w.heap.size, 0, none⟩) 0 0) 0 [] := World.ownsRow_made w #[] 0 (Nat.le_refl _) (by unfold maxLen; omega) rfl
  have hcell : ∀ j u, (bs.map u8)[j]? = some u → (w.alloc (.cells #[] 5)).cell? (ad.add j) = some u := fun j u h => by
    have h1 := hr j u h
    exact (((Below.refl w.heap.size w).alloc (Nat.le_refl _) (.cells #[] 5)).cell (p := ad.add j) (World.block_lt_of_cell? w _ h1)).trans h1
  have hr := Lib.hid hcell
  clear hcell
  go_enter Tryz.func55, Tryz.ntmps55
  go_wp2_with (at_builtin; refine wpList_append_own _ rfl _ _ 28 rfl w.heap.size 5 i0 (.int .u8 0) 1 1 Tryz.underlying28 hi hz0 hz1 hz2 rfl (by decide) (.slice (some ⟨w.heap.size, 0, none⟩) 0 0) 0 [] rfl hown ad bs.length c (bs.map u8) rfl ?c1 hr.out ?c2 ?c3 ?c4 ?c5 ?_; rotate_right; intro v' w1 hown' hgrow hnil)
  case c1 => simp
  case c2 => intro u hu; obtain ⟨b, _, rfl⟩ := List.mem_map.1 hu; rfl
  case c3 => unfold maxLen; omega
  case c4 => omega
  case c5 => simp
  have hb : Below w.heap.size w w1 := ((Below.refl _ _).alloc (Nat.le_refl _) _).grown hgrow (by simp) (fun k hk => by simp [Value.ownBlock] at hk; omega)
  go_ret
  rcases hown'.2 with ⟨rfl, _⟩ | ⟨g, cap, cur, rfl, _⟩
  · simp at hnil
  · simp only [Nat.zero_add, List.nil_append] at hown' ⊢
    exact ⟨g, cap, rfl, hown', hb⟩
set_option maxHeartbeats 400000 in
set_option maxRecDepth 100000 in
theorem add115first (L M E clock : Nat) (m : Int) (es : Array MapEntry) (k : ByteArray) (ev : Value) (most : Int) (w : World) (hL : LAt w L M m ⟨L, 1, none⟩ ⟨L, 1, none⟩) (hM : w.heap[M]? = some (.map es clock)) (hk : NoKey es k) (hm : (es.size : Int) + 1 ≤ m)
    (hE : w.heap[E]? = some (.cells #[.string k, ev] 111 (0, 0))) :
    Calls Tryz.prog 115 #[.agg #[.pointer (some ⟨L, 0, none⟩)], .pointer (some ⟨E, 0, none⟩), .int .i64 most] w fun e w' => ∃ X, e = .returned (.int .i64 0) ∧ w.heap.size ≤ X ∧ LAt w' L M m ⟨X, 0, none⟩ ⟨X, 0, none⟩ ∧
      w'.heap[X]? = some (.cells (linkCells k E (.pointer (some ⟨L, 1, none⟩)) (.pointer (some ⟨L, 1, none⟩))) 124 (0, 0)) ∧ w'.heap[M]? = some (.map (es.push ⟨.string k, .pointer (some ⟨X, 0, none⟩), clock⟩) (clock + 1)) ∧
      Turns (fun b => b = L ∨ b = M) w w' := by
  have e0 : w.cell? ⟨E, 0, none⟩ = some (.string k) := by simp [World.cell?, hE]
  have hEl := (Array.getElem?_eq_some_iff.1 hE).1
  have hb0 : Below w.heap.size w (w.alloc (.cells #[.pointer (some ⟨L, 0, none⟩)] 106)).drew := ((Below.refl _ _).alloc (Nat.le_refl _) _).drew
  have hp := put121first L M E clock m es k _ (hL.later hb0) ((hb0.block M (Array.getElem?_eq_some_iff.1 hM).1).trans hM) hk hm
  go_enter Tryz.func115, Tryz.ntmps115
  go_wp2_with fail
  go_region_with (go_at_call 121; refine hp.mono ?_; rintro e w2 ⟨X, rfl, hX, hL2, hX2, hM2, ht2⟩)
  all_goals
    go_wp2
    go_ret
    refine ⟨X, rfl, ?_, hL2, hX2, hM2, ?_⟩
    · simp at hX; omega
    · exact ((Turns.refl _ w).alloc _).drew.trans (ht2.mono fun b _ h => h)
set_option maxHeartbeats 400000 in
set_option maxRecDepth 100000 in
theorem add115more (L M E Y F clock : Nat) (m : Int) (es : Array MapEntry) (k k' : ByteArray) (p next : Addr) (nx : Value) (ev : Value) (most : Int) (w : World) (hL : LAt w L M m ⟨Y, 0, none⟩ next) (hY : w.heap[Y]? = some (.cells (linkCells k' F (.pointer (some p)) nx) 124 (0, 0))) (hM : w.heap[M]? = some (.map es clock)) (hk : NoKey es k) (hm : (es.size : Int) + 1 ≤ m)
    (hE : w.heap[E]? = some (.cells #[.string k, ev] 111 (0, 0))) :
    Calls Tryz.prog 115 #[.agg #[.pointer (some ⟨L, 0, none⟩)], .pointer (some ⟨E, 0, none⟩), .int .i64 most] w fun e w' => ∃ X, e = .returned (.int .i64 0) ∧ w.heap.size ≤ X ∧ LAt w' L M m ⟨X, 0, none⟩ next ∧
      w'.heap[X]? = some (.cells (linkCells k E (.pointer (some ⟨Y, 0, none⟩)) (.pointer (some ⟨L, 1, none⟩))) 124 (0, 0)) ∧
      w'.heap[Y]? = some (.cells (linkCells k' F (.pointer (some p)) (.pointer (some ⟨X, 0, none⟩))) 124 (0, 0)) ∧ w'.heap[M]? = some (.map (es.push ⟨.string k, .pointer (some ⟨X, 0, none⟩), clock⟩) (clock + 1)) ∧
      Turns (fun b => b = L ∨ b = M ∨ b = Y) w w' := by
  have e0 : w.cell? ⟨E, 0, none⟩ = some (.string k) := by simp [World.cell?, hE]
  have hEl := (Array.getElem?_eq_some_iff.1 hE).1
  have hb0 : Below w.heap.size w (w.alloc (.cells #[.pointer (some ⟨L, 0, none⟩)] 106)).drew := ((Below.refl _ _).alloc (Nat.le_refl _) _).drew
  have hp := put121more L M E Y F clock m es k k' p next nx _ (hL.later hb0) ((hb0.block Y (Array.getElem?_eq_some_iff.1 hY).1).trans hY) ((hb0.block M (Array.getElem?_eq_some_iff.1 hM).1).trans hM) hk hm
  go_enter Tryz.func115, Tryz.ntmps115
  go_wp2_with fail
  go_region_with (go_at_call 121; refine hp.mono ?_; rintro e w2 ⟨X, rfl, hX, hL2, hX2, hY2, hM2, ht2⟩)
  all_goals
    go_wp2
    go_ret
    refine ⟨X, rfl, ?_, hL2, hX2, hY2, hM2, ?_⟩
    · simp at hX; omega
    · exact ((Turns.refl _ w).alloc _).drew.trans (ht2.mono fun b _ h => h)
end Go.Proofs.YtfhjffkcobmkaaaGreat
