/- Contracts of lru.New and table.New: a table of the kinds Hash and LRU is made, with no entries. -/
import Derived.WalkKit
import Derived.Lib.Hide
import Derived.WalkLawsBesides
import Derived.WalkSpells
import Derived.BigQuiet
import Derived.Deep.QuietTactic
import Derived.Handy
import Derived.RangeFuncBox
import Derived.Shelf.Abstract
import Derived.Deep.RegionWith
import Derived.Test.YtfhjffkcobmkaaaGreatA4
set_option linter.unusedVariables false
set_option linter.unusedSimpArgs false
namespace Go.Proofs.YtfhjffkcobmkaaaGreat
open Go.RowKit
theorem heap_new (w : World) (o : Obj) (k : Nat) (h : k = w.heap.size) : (w.alloc o).heap[k]? = some o := by subst h; exact World.alloc_heap_new w o
theorem heap_old (w : World) (o : Obj) (k : Nat) (h : k < w.heap.size) : (w.alloc o).heap[k]? = w.heap[k]? := Below.heap_alloc w o k h
set_option maxHeartbeats 400000 in
theorem new42hash (c : UInt8) (hc : Letter c) (key v m : Int) (h : RightMap 2 key v m) (w : World) :
    Calls Tryz.prog 42 #[.agg (mapCells (One c) 2 key v m)] w fun e w' => ∃ T M, e = .returned (.tuple #[.pointer (some ⟨T, 0, none⟩), .int .i64 0]) ∧ Below w.heap.size w w' ∧ w.heap.size ≤ T ∧ w.heap.size ≤ M ∧
      w'.heap[T]? = some (.cells #[.string (One c), .int .i64 2, .int .i64 key, .int .i64 v, .int .i64 m, .iface 97 (.map (some M))] 101 (0, 0)) ∧ w'.heap[M]? = some (.map #[] 0) := by
  have hr := fun W => right38 c hc 2 key v m h W
  have hmm := @run_makeMap Tryz.prog
  unfold mapCells at hr ⊢
  go_enter Tryz.func42, Tryz.ntmps42
  go_wp2_with fail
  refine (hr _).mono ?_
  rintro e w1 ⟨rfl, hb1⟩
  obtain ⟨hc1, hf1⟩ := bcell hb1
  go_wp2_with fail
  go_ret2
  refine ⟨w1.heap.size + 1, w1.heap.size, rfl, (((((Below.refl _ _).alloc (Nat.le_refl _) _).trans (hb1.mono (by simp))).alloc ?_ _).alloc ?_ _), ?_, ?_, ?_, ?_⟩
  · have := hb1.size; simp at this; omega
  · have := hb1.size; simp at this ⊢; omega
  · have := hb1.size; simp at this; omega
  · have := hb1.size; simp at this; omega
  · exact heap_new _ _ _ (by simp)
  · rw [heap_old _ _ _ (by simp)]; exact heap_new _ _ _ rfl
theorem cells5 {w : World} {b : Nat} {t : TypeId} {f : Nat × Nat} {c0 c1 c2 c3 c4 : Value} (h : w.heap[b]? = some (.cells #[c0, c1, c2, c3, c4] t f)) :
    w.cell? ⟨b, 0, none⟩ = some c0 ∧ w.cell? ⟨b, 1, none⟩ = some c1 ∧ w.cell? ⟨b, 2, none⟩ = some c2 ∧ w.cell? ⟨b, 3, none⟩ = some c3 ∧ w.cell? ⟨b, 4, none⟩ = some c4 := by
  simp [World.cell?, h]
theorem cells6 {w : World} {b : Nat} {t : TypeId} {f : Nat × Nat} {c0 c1 c2 c3 c4 c5 : Value} (h : w.heap[b]? = some (.cells #[c0, c1, c2, c3, c4, c5] t f)) :
    w.cell? ⟨b, 0, none⟩ = some c0 ∧ w.cell? ⟨b, 1, none⟩ = some c1 ∧ w.cell? ⟨b, 2, none⟩ = some c2 ∧ w.cell? ⟨b, 3, none⟩ = some c3 ∧ w.cell? ⟨b, 4, none⟩ = some c4 ∧ w.cell? ⟨b, 5, none⟩ = some c5 := by
  simp [World.cell?, h]
/-- a list without keys: its ring stands around itself -/
def listCells (L M : Nat) (m : Int) (prev next : Addr) : Array Value := #[.int .i64 m, .string ⟨#[]⟩, .pointer none, .pointer (some prev), .pointer (some next), .map (some M)]
set_option maxHeartbeats 400000 in
theorem lruNew52 (m : Int) (hm : 1 ≤ m) (hm' : m ≤ 1024) (w : World) :
    Calls Tryz.prog 52 #[.int .i64 m] w fun e w' => ∃ L M, e = .returned (.pointer (some ⟨L, 0, none⟩)) ∧ Below w.heap.size w w' ∧ w.heap.size ≤ L ∧ w.heap.size ≤ M ∧
      w'.heap[L]? = some (.cells (listCells L M m ⟨L, 1, none⟩ ⟨L, 1, none⟩) 126 (0, 0)) ∧ w'.heap[M]? = some (.map #[] 0) := by
  have hmm := @run_makeMap Tryz.prog
  go_enter Tryz.func52, Tryz.ntmps52
  go_wp2_with fail
  go_region
  go_wp2_with fail
  go_ret
  refine ⟨w.heap.size + 1, w.heap.size, rfl, (((Below.refl _ _).alloc (Nat.le_refl _) _).alloc (by simp) _).drew, by omega, by omega, ?_, ?_⟩
  · exact heap_new _ _ _ (by simp)
  · show (World.alloc _ _).heap[_]? = _
    rw [heap_old _ _ _ (by simp)]; exact heap_new _ _ _ rfl
set_option maxHeartbeats 400000 in
theorem new42lru (c : UInt8) (hc : Letter c) (key v m : Int) (h : RightMap 3 key v m) (w : World) :
    Calls Tryz.prog 42 #[.agg (mapCells (One c) 3 key v m)] w fun e w' => ∃ T L M, e = .returned (.tuple #[.pointer (some ⟨T, 0, none⟩), .int .i64 0]) ∧ Below w.heap.size w w' ∧ w.heap.size ≤ T ∧ w.heap.size ≤ L ∧ w.heap.size ≤ M ∧
      w'.heap[T]? = some (.cells #[.string (One c), .int .i64 3, .int .i64 key, .int .i64 v, .int .i64 m, .iface 106 (.agg #[.pointer (some ⟨L, 0, none⟩)])] 101 (0, 0)) ∧
      w'.heap[L]? = some (.cells (listCells L M m ⟨L, 1, none⟩ ⟨L, 1, none⟩) 126 (0, 0)) ∧ w'.heap[M]? = some (.map #[] 0) := by
  have hr := fun W => right38 c hc 3 key v m h W
  have hl := fun W => lruNew52 m h.m1 h.m1024 W
  unfold mapCells at hr ⊢
  go_enter Tryz.func42, Tryz.ntmps42
  go_wp2_with fail
  refine (hr _).mono ?_
  rintro e w1 ⟨rfl, hb1⟩
  obtain ⟨hc1, hf1⟩ := bcell hb1
  have hs1 : w.heap.size < w1.heap.size := by have := hb1.size; simp at this; omega
  have hk1 := (hb1.block w.heap.size (by simp)).trans (heap_new _ _ _ rfl)
  clear hr
  go_wp2_with fail
  go_region_with (go_at_call 52; refine (hl _).mono ?_; rintro e w2 ⟨L, M, rfl, hb2, hL, hM, hLc, hMc⟩; obtain ⟨z0, z1, z2, z3, z4⟩ := cells5 ((hb2.block w.heap.size hs1).trans hk1))
  all_goals
    go_wp2_with fail
    go_ret2
    have hz2 : w1.heap.size ≤ w2.heap.size := hb2.size
    have hL2 : w1.heap.size ≤ L := hL
    have hM2 : w1.heap.size ≤ M := hM
    have hL3 := (Array.getElem?_eq_some_iff.1 hLc).1
    have hM3 := (Array.getElem?_eq_some_iff.1 hMc).1
    refine ⟨w2.heap.size, L, M, rfl, (((Below.refl _ _).alloc (Nat.le_refl _) _).trans (hb1.mono (by simp))).drew.trans ((hb2.mono (by simp; omega)).alloc (by omega) _), by omega, by omega, by omega, heap_new _ _ _ rfl, ?_, ?_⟩
    · rw [heap_old _ _ _ hL3]; exact hLc
    · rw [heap_old _ _ _ hM3]; exact hMc
end Go.Proofs.YtfhjffkcobmkaaaGreat
