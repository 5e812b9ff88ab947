/- Rows of cells, and what a reader of rows keeps. -/
import Derived.WalkKit
import Derived.Lib.Hide
import Derived.WalkLawsBesides
import Derived.WalkSpells
import Derived.BigQuiet
import Derived.Deep.QuietTactic
import Derived.Handy
import Derived.RangeFuncBox
import Derived.Shelf.Abstract
import Derived.Deep.RegionWith
import Derived.Deep.RegionHeld3
import Derived.StillTailTactics
import Derived.Lib.AppendStr
import Derived.RangeFuncNested
import Derived.RangeFuncBound
import Derived.RangeFuncCalls
import Derived.RangeFuncLeaves
import Derived.Shelf.AbstractIn
import Derived.Shelf.RegionOpen
import Derived.OwnWalkIn
import Derived.TacticsInMore
import Derived.LoopNIn
import Derived.LoopIn
import Derived.LaidEqlPtr
import Derived.Lib.Builder
import Derived.Lib.ConvBytes
import Derived.Maps.AppendAt
import Derived.Test.YtfhjffkcobmkaaaGreatE3
set_option linter.unusedVariables false
set_option linter.unusedSimpArgs false
namespace Go.Proofs.YtfhjffkcobmkaaaGreat
open Go.RowKit
/-- the rows of f one behind another -/
def rowsOf (f : Nat → List Value) (k : Nat) : List Value := (List.range k).flatMap f
theorem rowsOf_succ (f : Nat → List Value) (k : Nat) : rowsOf f (k + 1) = rowsOf f k ++ f k := by
  simp [rowsOf, List.range_succ]
theorem rowsOf_congr (f g : Nat → List Value) (k : Nat) (h : ∀ j, j < k → f j = g j) : rowsOf f k = rowsOf g k := by
  induction k with
  | zero => rfl
  | succ k ih => rw [rowsOf_succ, rowsOf_succ, ih fun j hj => h j (by omega), h k (by omega)]
theorem rowsOf_length (f : Nat → List Value) (k s : Nat) (h : ∀ j, j < k → (f j).length = s) : (rowsOf f k).length = k * s := by
  induction k with
  | zero => simp [rowsOf]
  | succ k ih => rw [rowsOf_succ, List.length_append, ih fun j hj => h j (by omega), h k (by omega), Nat.succ_mul]
theorem rowsOf_at (f : Nat → List Value) (n s : Nat) (h : ∀ j, j < n → (f j).length = s) (j : Nat) (hj : j < n) (i : Nat) (u : Value) (hi : i < s) (hu : (f j)[i]? = some u) : (rowsOf f n)[j * s + i]? = some u := by
  induction n with
  | zero => omega
  | succ n ih =>
    rw [rowsOf_succ]
    have hl := rowsOf_length f n s fun j hj => h j (by omega)
    by_cases hjn : j < n
    · rw [List.getElem?_append_left]
      · exact ih (fun j hj => h j (by omega)) hjn
      · rw [hl]
        have : (j + 1) * s ≤ n * s := Nat.mul_le_mul_right _ hjn
        rw [Nat.succ_mul] at this
        omega
    · obtain rfl : j = n := by omega
      rw [List.getElem?_append_right (by omega), hl, Nat.add_sub_cancel_left]
      exact hu
/-- the bytes of f from k to n -/
def flat (f : Nat → List UInt8) (k n : Nat) : List UInt8 := (List.range' k (n - k)).flatMap f
theorem flat_end (f : Nat → List UInt8) (n : Nat) : flat f n n = [] := by simp [flat]
theorem flat_step (f : Nat → List UInt8) (k n : Nat) (h : k < n) : flat f k n = f k ++ flat f (k + 1) n := by
  unfold flat
  obtain ⟨d, rfl⟩ : ∃ d, n = k + 1 + d := ⟨n - (k + 1), by omega⟩
  rw [show k + 1 + d - k = d + 1 by omega, show k + 1 + d - (k + 1) = d by omega, List.range'_succ, List.flatMap_cons]
theorem flat_snoc (f : Nat → List UInt8) (n : Nat) : flat f 0 (n + 1) = flat f 0 n ++ f n := by
  simp [flat, List.range'_concat]
theorem flat_congr (f g : Nat → List UInt8) (n : Nat) (h : ∀ j, j < n → f j = g j) : flat f 0 n = flat g 0 n := by
  induction n with
  | zero => simp [flat]
  | succ n ih => rw [flat_snoc, flat_snoc, ih fun j hj => h j (by omega), h n (by omega)]
theorem flat_length (f : Nat → List UInt8) (n s : Nat) (h : ∀ j, j < n → (f j).length ≤ s) : (flat f 0 n).length ≤ n * s := by
  induction n with
  | zero => simp [flat]
  | succ n ih =>
    rw [flat_snoc, List.length_append, Nat.succ_mul]
    have := ih fun j hj => h j (by omega)
    have := h n (by omega)
    omega
theorem ownsRow_turned {S : Nat → Prop} {a b : World} {base : Nat} {e : TypeId} {size : Nat} {v : Value} {n : Nat} {xs : List Value} (h : a.ownsRow base e size v n xs) (ht : Turns S a b) (hS : ∀ k, base ≤ k → ¬ S k) : b.ownsRow base e size v n xs := by
  refine ⟨h.1, ?_⟩
  rcases h.2 with h0 | ⟨g, cap, cur, he, hb, hg, r⟩
  · exact .inl h0
  · exact .inr ⟨g, cap, cur, he, hb, (ht.block g (Array.getElem?_eq_some_iff.1 hg).1 (hS g hb)).trans hg, r⟩
theorem turns_grown {S : Nat → Prop} {a b : World} {row : Option Nat} (hg : a.grownBy b row) {N : Nat} {c : World} (hc : Turns S c a) (hN : ∀ k, row = some k → c.heap.size ≤ k) : Turns S c b :=
  ⟨hg.os.trans hc.os, hg.tape.trans hc.tape, hg.output.trans hc.output, Nat.le_trans hc.size hg.size, fun k hk hs => (hg.block k (by have := hc.size; omega) (fun e => by have := hN k e.symm; omega)).trans (hc.block k hk hs)⟩
/-- a text's bytes lie in a block -/
structure DataAt (s : ByteArray) (Z cap : Nat) (W : World) : Prop where
  c1 : s.size ≤ cap
  c2 : cap ≤ maxLen
  cells : ∀ j u, (s.data.toList.map u8)[j]? = some u → W.cell? ⟨Z, j, none⟩ = some u
theorem DataAt.lt {s : ByteArray} {Z cap : Nat} {W : World} (h : DataAt s Z cap W) (hs : 0 < s.size) : Z < W.heap.size := by
  have h0 : 0 < (s.data.toList.map u8).length := by simpa using hs
  exact World.block_lt_of_cell? W _ (h.cells 0 _ (List.getElem?_eq_getElem h0))
theorem DataAt.same {s : ByteArray} {Z cap : Nat} {a b : World} (h : DataAt s Z cap a) (hs : 0 < s.size → b.heap[Z]? = a.heap[Z]?) : DataAt s Z cap b :=
  ⟨h.c1, h.c2, fun j u hj => (World.cell?_of_block (hs (by have := (List.getElem?_eq_some_iff.1 hj).1; simp at this; have e : s.size = s.data.size := rfl; omega))).trans (h.cells j u hj)⟩
/-- k rows are read -/
structure RowSt (w : World) (R S n : Nat) (e : TypeId) (s : Nat) (row : Nat → Nat → Nat → List Value) (sf : Nat → ByteArray) (bs : Nat → List UInt8) (ys : List UInt8) (v : Value) (k : Nat) (wr : World) (Zf cf : Nat → Nat) : Prop where
  own : wr.ownsRow w.heap.size e s v k (rowsOf (fun j => row j (Zf j) (cf j)) k)
  data : ∀ j, j < k → DataAt (sf j) (Zf j) (cf j) wr ∧ (0 < (sf j).size → w.heap.size ≤ Zf j ∧ some (Zf j) ≠ v.ownBlock)
  rd : Rd wr R S (flat bs k n ++ ys)
  turns : Turns (fun b => b = R) w wr
theorem RowSt.step {w : World} {R S n : Nat} {e : TypeId} {s : Nat} {row : Nat → Nat → Nat → List Value} {sf : Nat → ByteArray} {bs : Nat → List UInt8} {ys : List UInt8} {v : Value} {k : Nat} {wr : World} {Zf cf : Nat → Nat}
    (h : RowSt w R S n e s row sf bs ys v k wr Zf cf) (hR : R < w.heap.size) (hS : S < w.heap.size) {w1 w2 : World} {Z cap : Nat} {v' : Value} {o : Obj} (ht : Turns (fun b => b = R) wr w1) (hd : Rd w1 R S (flat bs (k + 1) n ++ ys)) (hda : DataAt (sf k) Z cap w1) (hZ : 0 < (sf k).size → wr.heap.size ≤ Z)
    (hg : (w1.alloc o).grownBy w2 v.ownBlock) (hat : v'.ownBlock = v.ownBlock ∨ v'.ownBlock = some (w1.alloc o).heap.size) (hown : w2.ownsRow w.heap.size e s v' (k + 1) (rowsOf (fun j => row j (Zf j) (cf j)) k ++ row k Z cap)) :
    RowSt w R S n e s row sf bs ys v' (k + 1) w2 (fun j => if j = k then Z else Zf j) (fun j => if j = k then cap else cf j) := by
  have hlt := h.own.lt
  have h1 := h.turns.size
  have h2 := ht.size
  have hTA := ((h.turns.trans ht).alloc o)
  have hsa : (w1.alloc o).heap.size = w1.heap.size + 1 := by simp
  have hT2 : Turns (fun b => b = R) w w2 := turns_grown (N := 0) hg hTA fun g hg' => (hlt g hg').1
  have old : ∀ g, g < w1.heap.size → some g ≠ v.ownBlock → w2.heap[g]? = w1.heap[g]? := fun g h3 h4 => (hg.block g (by omega) h4).trans (heap_old w1 o g h3)
  refine ⟨?_, ?_, ?_, hT2⟩
  · rw [rowsOf_succ, rowsOf_congr _ (fun j => row j (Zf j) (cf j)) k fun j hj => by simp [Nat.ne_of_lt hj]]
    simpa using hown
  · intro j hj
    by_cases hjk : j = k
    · subst hjk
      simp only [if_true]
      refine ⟨hda.same fun hs => old Z (hda.lt hs) fun e => ?_, fun hs => ⟨by have := hZ hs; omega, fun e => ?_⟩⟩
      · have := hlt Z e.symm; have := hZ hs; omega
      · rcases hat with hat | hat
        · have := hlt Z (hat.symm.trans e.symm); have := hZ hs; omega
        · rw [hat] at e; have := hda.lt hs; simp at e; omega
    · simp only [if_neg hjk]
      obtain ⟨d1, d2⟩ := h.data j (by omega)
      refine ⟨d1.same fun hs => ?_, fun hs => ⟨(d2 hs).1, fun e => ?_⟩⟩
      · have h5 := d1.lt hs
        exact (old (Zf j) (by omega) (d2 hs).2).trans (ht.block _ h5 (by have := (d2 hs).1; omega))
      · rcases hat with hat | hat
        · exact (d2 hs).2 (e.trans hat)
        · rw [hat] at e; have := d1.lt hs; simp at e; omega
  · refine hd.same (old R (by omega) fun e => ?_) (old S (by omega) fun e => ?_)
    · have := hlt R e.symm; omega
    · have := hlt S e.symm; omega
end Go.Proofs.YtfhjffkcobmkaaaGreat
