/- Contracts of table.Table.Update at an LRU where the key was not there and there is room. -/
import Derived.WalkKit
import Derived.Lib.Hide
import Derived.WalkLawsBesides
import Derived.WalkSpells
import Derived.BigQuiet
import Derived.Deep.QuietTactic
import Derived.Handy
import Derived.RangeFuncBox
import Derived.Shelf.Abstract
import Derived.Deep.RegionWith
import Derived.Deep.RegionHeld3
import Derived.StillTailTactics
import Derived.Test.YtfhjffkcobmkaaaGreatB2
set_option linter.unusedVariables false
set_option linter.unusedSimpArgs false
namespace Go.Proofs.YtfhjffkcobmkaaaGreat
open Go.RowKit
def tabCells (s : ByteArray) (mx : Int) (L : Nat) : Array Value := #[.string s, .int .i64 3, .int .i64 1, .int .i64 1, .int .i64 mx, .iface 106 (.agg #[.pointer (some ⟨L, 0, none⟩)])]
theorem ownsRow_head {w : World} {base D cap : Nat} {u : Value} (h : w.ownsRow base 5 1 (.slice (some ⟨D, 0, none⟩) 1 cap) 1 [u]) : base ≤ D ∧ ∃ cur, w.heap[D]? = some (.cells cur 5 (0, 0)) ∧ cur[0]? = some u := by
  rcases h.2 with ⟨h0, _⟩ | ⟨g, cp, cur, he, hb, hg, _, _, _, ht⟩
  · cases h0
  · cases he
    refine ⟨hb, cur, hg, ?_⟩
    have h1 : (cur.toList.take 1)[0]? = some u := by rw [show 1 * 1 = 1 from rfl] at ht; rw [ht]; rfl
    rw [List.getElem?_take] at h1
    simpa using h1
set_option maxHeartbeats 400000 in
set_option maxRecDepth 100000 in
theorem update44first (T L M S ok ov ck cv clock : Nat) (kb vb : UInt8) (m mx : Int) (s : ByteArray) (es : Array MapEntry) (w : World) (hT : w.heap[T]? = some (.cells (tabCells s mx L) 101 (0, 0))) (hL : LAt w L M m ⟨L, 1, none⟩ ⟨L, 1, none⟩)
    (hM : w.heap[M]? = some (.map es clock)) (hk : NoKey es (One kb)) (hm : (es.size : Int) + 1 ≤ m)
    (hkb : w.cell? ⟨S, ok, none⟩ = some (u8 kb)) (hvb : w.cell? ⟨S, ov, none⟩ = some (u8 vb)) :
    Calls Tryz.prog 44 #[.pointer (some ⟨T, 0, none⟩), .slice (some ⟨S, ok, none⟩) 1 ck, .slice (some ⟨S, ov, none⟩) 1 cv, .int .i64 0] w fun e w' => ∃ X E D cap cur, e = .returned (.int .i64 0) ∧ w.heap.size ≤ X ∧ LAt w' L M m ⟨X, 0, none⟩ ⟨X, 0, none⟩ ∧
      w'.heap[X]? = some (.cells (linkCells (One kb) E (.pointer (some ⟨L, 1, none⟩)) (.pointer (some ⟨L, 1, none⟩))) 124 (0, 0)) ∧ w'.heap[M]? = some (.map (es.push ⟨.string (One kb), .pointer (some ⟨X, 0, none⟩), clock⟩) (clock + 1)) ∧
      w'.heap[E]? = some (.cells #[.string (One kb), .slice (some ⟨D, 0, none⟩) 1 cap] 111 (0, 0)) ∧ w'.heap[D]? = some (.cells cur 5 (0, 0)) ∧ cur[0]? = some (u8 vb) ∧ w.heap.size ≤ E ∧ w.heap.size ≤ D ∧
      Turns (fun b => b = L ∨ b = M) w w' := by
  obtain ⟨t0, t1, t2, t3, t4, t5⟩ := cells6 hT
  have hconv : (convert 28 9 (.slice (some ⟨S, ok, none⟩) 1 ck)).run Tryz.prog w = .ok (.string (One kb)) w :=
    run_convert_bytes_back w 28 9 5 ⟨S, ok, none⟩ ck [kb] Tryz.underlying28 Tryz.underlying5 Tryz.underlying9 (fun j hj => by
      obtain rfl : j = 0 := by simpa using hj
      exact hkb)
  have hp := peek118 L M clock m _ _ es (One kb) w hL hM hk
  go_enter Tryz.func44, Tryz.ntmps44
  go_wp2_with (go_at_call 118; refine hp.mono ?_; rintro e w1 ⟨rfl, hb1⟩; obtain ⟨hc1, hf1⟩ := bcell hb1)
  have hs1 : w.heap.size ≤ w1.heap.size := hb1.size
  have hSl := World.block_lt_of_cell? w _ hvb
  have hcl := clone55 ⟨S, ov, none⟩ cv [vb] w1.drew (fun j u hj => by
    cases j with
    | zero => simp at hj; subst hj; exact (hb1.cell (p := ⟨S, ov, none⟩) hSl).trans hvb
    | succ j => simp at hj) (by simp)
  have hadd : ∀ (w2 : World) (ev : Value), Below w1.heap.size w1.drew w2 → _ := fun w2 ev hb2 =>
    have hbb : Below w1.heap.size w1 (w2.alloc (.cells #[.string (One kb), ev] 111)) := ((Below.refl w1.heap.size w1).drew).trans (hb2.alloc hb2.size _)
    add115first L M w2.heap.size clock m es (One kb) ev mx (w2.alloc (.cells #[.string (One kb), ev] 111))
    ((hL.later hb1).later hbb) ((hbb.block M (by have := (Array.getElem?_eq_some_iff.1 hM).1; omega)).trans ((hb1.block M (Array.getElem?_eq_some_iff.1 hM).1).trans hM)) hk hm (heap_new _ _ _ rfl)
  have hTl := (Array.getElem?_eq_some_iff.1 hT).1
  have y4 := (hc1 T 4 hTl).trans t4
  have y5 := (hc1 T 5 hTl).trans t5
  have hTL : T ≠ L := by rintro rfl; have := hT.symm.trans hL.h; simp at this
  have hTM : T ≠ M := by rintro rfl; have := hT.symm.trans hM; simp at this
  have hT1 : T < w1.heap.size := by omega
  go_region_held3 (fun W => W.cell? ⟨T, 5, none⟩ = some (.iface 106 (.agg #[.pointer (some ⟨L, 0, none⟩)])) ∧ W.cell? ⟨T, 4, none⟩ = some (.int .i64 mx)) (first | go_keep | exact ⟨q5, q4⟩ | exact ⟨p5, p4⟩ | exact ⟨r5, r4⟩)
    (first | (go_at_call 55; refine hcl.mono ?_; rintro e w2 ⟨D, cap, rfl, hD, hb2⟩; have hadd2 := hadd w2 (.slice (some ⟨D, 0, none⟩) 1 cap) hb2; have p5 := (hb2.cell (p := ⟨T, 5, none⟩) hT1).trans y5; have p4 := (hb2.cell (p := ⟨T, 4, none⟩) hT1).trans y4; have hT2 : T < w2.heap.size := Nat.lt_of_lt_of_le hT1 hb2.size; have q5 := (World.cell?_of_block (a := ⟨T, 5, none⟩) (heap_old w2 (.cells #[.string (One kb), .slice (some ⟨D, 0, none⟩) 1 cap] 111) T hT2)).trans p5; have q4 := (World.cell?_of_block (a := ⟨T, 4, none⟩) (heap_old w2 (.cells #[.string (One kb), .slice (some ⟨D, 0, none⟩) 1 cap] 111) T hT2)).trans p4) | (go_at_call 115; refine hadd2.mono ?_; rintro e w3 ⟨X, rfl, hX, hL3, hX3, hM3, ht3⟩; have hT3 := ht3.block T (by simp; omega) (by rintro (h | h) <;> contradiction); have r5 := (World.cell?_of_block (a := ⟨T, 5, none⟩) hT3).trans q5; have r4 := (World.cell?_of_block (a := ⟨T, 4, none⟩) hT3).trans q4))
  go_wp2
  go_ret
  obtain ⟨hD1, cur, hDc, hcur⟩ := ownsRow_head hD
  have hD2 := (Array.getElem?_eq_some_iff.1 hDc).1
  have hL1 := (Array.getElem?_eq_some_iff.1 hL.h).1
  have hM1 := (Array.getElem?_eq_some_iff.1 hM).1
  have hz2 : w1.heap.size ≤ w2.heap.size := hb2.size
  have hD3 : w1.heap.size ≤ D := hD1
  have hX1 : w2.heap.size + 1 ≤ X := by simpa using hX
  refine ⟨X, w2.heap.size, D, cap, cur, rfl, by omega, hL3, hX3, hM3, ?_, ?_, hcur, by omega, by omega, ?_⟩
  · rw [ht3.block w2.heap.size (by simp) (by rintro (h | h) <;> omega)]; exact heap_new _ _ _ rfl
  · rw [ht3.block D (by simp; omega) (by rintro (h | h) <;> omega), heap_old _ _ _ hD2]; exact hDc
  · have h1 : Below w.heap.size w (w2.alloc (.cells #[.string (One kb), .slice (some ⟨D, 0, none⟩) 1 cap] 111)) := hb1.drew.trans ((hb2.mono hs1).alloc (by omega) _)
    exact (Turns.of_below h1).trans (ht3.mono fun b _ h => h)
set_option maxHeartbeats 400000 in
set_option maxRecDepth 100000 in
theorem update44more (T L M Y F S ok ov ck cv clock : Nat) (kb vb : UInt8) (m mx : Int) (s k' : ByteArray) (p next : Addr) (nx : Value) (es : Array MapEntry) (w : World) (hT : w.heap[T]? = some (.cells (tabCells s mx L) 101 (0, 0))) (hL : LAt w L M m ⟨Y, 0, none⟩ next) (hY : w.heap[Y]? = some (.cells (linkCells k' F (.pointer (some p)) nx) 124 (0, 0)))
    (hM : w.heap[M]? = some (.map es clock)) (hk : NoKey es (One kb)) (hm : (es.size : Int) + 1 ≤ m)
    (hkb : w.cell? ⟨S, ok, none⟩ = some (u8 kb)) (hvb : w.cell? ⟨S, ov, none⟩ = some (u8 vb)) :
    Calls Tryz.prog 44 #[.pointer (some ⟨T, 0, none⟩), .slice (some ⟨S, ok, none⟩) 1 ck, .slice (some ⟨S, ov, none⟩) 1 cv, .int .i64 0] w fun e w' => ∃ X E D cap cur, e = .returned (.int .i64 0) ∧ w.heap.size ≤ X ∧ LAt w' L M m ⟨X, 0, none⟩ next ∧
      w'.heap[X]? = some (.cells (linkCells (One kb) E (.pointer (some ⟨Y, 0, none⟩)) (.pointer (some ⟨L, 1, none⟩))) 124 (0, 0)) ∧
      w'.heap[Y]? = some (.cells (linkCells k' F (.pointer (some p)) (.pointer (some ⟨X, 0, none⟩))) 124 (0, 0)) ∧ w'.heap[M]? = some (.map (es.push ⟨.string (One kb), .pointer (some ⟨X, 0, none⟩), clock⟩) (clock + 1)) ∧
      w'.heap[E]? = some (.cells #[.string (One kb), .slice (some ⟨D, 0, none⟩) 1 cap] 111 (0, 0)) ∧ w'.heap[D]? = some (.cells cur 5 (0, 0)) ∧ cur[0]? = some (u8 vb) ∧ w.heap.size ≤ E ∧ w.heap.size ≤ D ∧
      Turns (fun b => b = L ∨ b = M ∨ b = Y) w w' := by
  obtain ⟨t0, t1, t2, t3, t4, t5⟩ := cells6 hT
  have hconv : (convert 28 9 (.slice (some ⟨S, ok, none⟩) 1 ck)).run Tryz.prog w = .ok (.string (One kb)) w :=
    run_convert_bytes_back w 28 9 5 ⟨S, ok, none⟩ ck [kb] Tryz.underlying28 Tryz.underlying5 Tryz.underlying9 (fun j hj => by
      obtain rfl : j = 0 := by simpa using hj
      exact hkb)
  have hp := peek118 L M clock m _ _ es (One kb) w hL hM hk
  go_enter Tryz.func44, Tryz.ntmps44
  go_wp2_with (go_at_call 118; refine hp.mono ?_; rintro e w1 ⟨rfl, hb1⟩; obtain ⟨hc1, hf1⟩ := bcell hb1)
  have hs1 : w.heap.size ≤ w1.heap.size := hb1.size
  have hSl := World.block_lt_of_cell? w _ hvb
  have hcl := clone55 ⟨S, ov, none⟩ cv [vb] w1.drew (fun j u hj => by
    cases j with
    | zero => simp at hj; subst hj; exact (hb1.cell (p := ⟨S, ov, none⟩) hSl).trans hvb
    | succ j => simp at hj) (by simp)
  have hadd : ∀ (w2 : World) (ev : Value), Below w1.heap.size w1.drew w2 → _ := fun w2 ev hb2 =>
    have hbb : Below w1.heap.size w1 (w2.alloc (.cells #[.string (One kb), ev] 111)) := ((Below.refl w1.heap.size w1).drew).trans (hb2.alloc hb2.size _)
    add115more L M w2.heap.size Y F clock m es (One kb) k' p next nx ev mx (w2.alloc (.cells #[.string (One kb), ev] 111))
    ((hL.later hb1).later hbb) ((hbb.block Y (by have := (Array.getElem?_eq_some_iff.1 hY).1; omega)).trans ((hb1.block Y (Array.getElem?_eq_some_iff.1 hY).1).trans hY)) ((hbb.block M (by have := (Array.getElem?_eq_some_iff.1 hM).1; omega)).trans ((hb1.block M (Array.getElem?_eq_some_iff.1 hM).1).trans hM)) hk hm (heap_new _ _ _ rfl)
  have hTl := (Array.getElem?_eq_some_iff.1 hT).1
  have y4 := (hc1 T 4 hTl).trans t4
  have y5 := (hc1 T 5 hTl).trans t5
  have hTL : T ≠ L := by rintro rfl; have := hT.symm.trans hL.h; simp at this
  have hTY : T ≠ Y := by rintro rfl; have := hT.symm.trans hY; simp at this
  have hTM : T ≠ M := by rintro rfl; have := hT.symm.trans hM; simp at this
  have hT1 : T < w1.heap.size := by omega
  go_region_held3 (fun W => W.cell? ⟨T, 5, none⟩ = some (.iface 106 (.agg #[.pointer (some ⟨L, 0, none⟩)])) ∧ W.cell? ⟨T, 4, none⟩ = some (.int .i64 mx)) (first | go_keep | exact ⟨q5, q4⟩ | exact ⟨p5, p4⟩ | exact ⟨r5, r4⟩)
    (first | (go_at_call 55; refine hcl.mono ?_; rintro e w2 ⟨D, cap, rfl, hD, hb2⟩; have hadd2 := hadd w2 (.slice (some ⟨D, 0, none⟩) 1 cap) hb2; have p5 := (hb2.cell (p := ⟨T, 5, none⟩) hT1).trans y5; have p4 := (hb2.cell (p := ⟨T, 4, none⟩) hT1).trans y4; have hT2 : T < w2.heap.size := Nat.lt_of_lt_of_le hT1 hb2.size; have q5 := (World.cell?_of_block (a := ⟨T, 5, none⟩) (heap_old w2 (.cells #[.string (One kb), .slice (some ⟨D, 0, none⟩) 1 cap] 111) T hT2)).trans p5; have q4 := (World.cell?_of_block (a := ⟨T, 4, none⟩) (heap_old w2 (.cells #[.string (One kb), .slice (some ⟨D, 0, none⟩) 1 cap] 111) T hT2)).trans p4) | (go_at_call 115; refine hadd2.mono ?_; rintro e w3 ⟨X, rfl, hX, hL3, hX3, hY3, hM3, ht3⟩; have hT3 := ht3.block T (by simp; omega) (by rintro (h | h | h) <;> contradiction); have r5 := (World.cell?_of_block (a := ⟨T, 5, none⟩) hT3).trans q5; have r4 := (World.cell?_of_block (a := ⟨T, 4, none⟩) hT3).trans q4))
  go_wp2
  go_ret
  obtain ⟨hD1, cur, hDc, hcur⟩ := ownsRow_head hD
  have hD2 := (Array.getElem?_eq_some_iff.1 hDc).1
  have hL1 := (Array.getElem?_eq_some_iff.1 hL.h).1
  have hY1 := (Array.getElem?_eq_some_iff.1 hY).1
  have hM1 := (Array.getElem?_eq_some_iff.1 hM).1
  have hz2 : w1.heap.size ≤ w2.heap.size := hb2.size
  have hD3 : w1.heap.size ≤ D := hD1
  have hX1 : w2.heap.size + 1 ≤ X := by simpa using hX
  refine ⟨X, w2.heap.size, D, cap, cur, rfl, by omega, hL3, hX3, hY3, hM3, ?_, ?_, hcur, by omega, by omega, ?_⟩
  · rw [ht3.block w2.heap.size (by simp) (by rintro (h | h | h) <;> omega)]; exact heap_new _ _ _ rfl
  · rw [ht3.block D (by simp; omega) (by rintro (h | h | h) <;> omega), heap_old _ _ _ hD2]; exact hDc
  · have h1 : Below w.heap.size w (w2.alloc (.cells #[.string (One kb), .slice (some ⟨D, 0, none⟩) 1 cap] 111)) := hb1.drew.trans ((hb2.mono hs1).alloc (by omega) _)
    exact (Turns.of_below h1).trans (ht3.mono fun b _ h => h)
end Go.Proofs.YtfhjffkcobmkaaaGreat
