/- What the law builds, writes and reads: contracts. -/
import Derived.WalkKit
import Derived.Lib.Hide
import Derived.WalkLawsBesides
import Derived.WalkSpells
import Derived.BigQuiet
import Derived.Deep.QuietTactic
import Derived.Handy
import Derived.RangeFuncBox
import Derived.Shelf.Abstract
import Derived.Deep.RegionWith
import Derived.Deep.RegionHeld3
import Derived.StillTailTactics
import Derived.Lib.AppendStr
import Derived.RangeFuncNested
import Derived.RangeFuncBound
import Derived.RangeFuncCalls
import Derived.RangeFuncLeaves
import Derived.Shelf.AbstractIn
import Derived.Shelf.RegionOpen
import Derived.OwnWalkIn
import Derived.TacticsInMore
import Derived.LoopNIn
import Derived.LoopIn
import Derived.LaidEqlPtr
import Derived.Lib.Builder
import Derived.Lib.ConvBytes
import Derived.Maps.AppendAt
import Derived.Deep.DeepCutAuto
import Derived.Defers
import Derived.Recover
import Derived.Lib.SlBytesConst
import Derived.Test.YtfhjffkcobmkaaaGreatJ1
set_option linter.unusedVariables false
set_option linter.unusedSimpArgs false
namespace Go.Proofs.YtfhjffkcobmkaaaGreat
open Go.RowKit
theorem i64_and65535 (n : Int) : bits .and .i64 n 65535 = n % 65536 := by
  have h127 : (BitVec.ofInt 64 65535).toNat = 2 ^ 16 - 1 := by decide
  have key : (BitVec.ofInt 64 n &&& BitVec.ofInt 64 65535).toNat = (n % ((2 ^ 64 : Nat) : Int)).toNat % 2 ^ 16 := by
    rw [BitVec.toNat_and, BitVec.toNat_ofInt, h127, Nat.and_two_pow_sub_one_eq_mod]
  show IntKind.i64.wrap ((BitVec.ofInt 64 n &&& BitVec.ofInt 64 65535).toNat : Nat) = n % 65536
  rw [key, IntKind.wrap_i64]
  omega
theorem count_of (n : Int) : ∃ x : Nat, (bits .and .i64 n 65535).tmod 81 = (x : Int) ∧ x ≤ 80 := by
  rw [i64_and65535, Int.tmod_eq_emod_of_nonneg (by omega)]
  exact ⟨(n % 65536 % 81).toNat, by omega, by omega⟩
/-- what one loop of the law has made: a row of k elements beside the image's block -/
structure Grow (Wi : World) (X : Nat) (e : TypeId) (s : Nat) (row : Nat → List Value) (v : Value) (k : Nat) (c0 c1 c2 : Value) (wr : World) : Prop where
  own : wr.ownsRow Wi.heap.size e s v k (rowsOf row k)
  box : wr.heap[X]? = some (.cells #[c0, c1, c2] 27 (0, 0))
  turns : Turns (fun b => b = X) Wi wr
theorem Grow.step {Wi : World} {X : Nat} {e : TypeId} {s : Nat} {row : Nat → List Value} {v : Value} {k : Nat} {c0 c1 c2 : Value} {wr : World} (h : Grow Wi X e s row v k c0 c1 c2 wr) (hX : X < Wi.heap.size) {o : Obj} {w2 : World} {v' : Value}
    (hg : (wr.alloc o).grownBy w2 v.ownBlock) (hown : w2.ownsRow Wi.heap.size e s v' (k + 1) (rowsOf row k ++ row k)) (i : Nat) (d0 d1 d2 : Value) (hi : #[c0, c1, c2].setIfInBounds i v' = #[d0, d1, d2]) :
    Grow Wi X e s row v' (k + 1) d0 d1 d2 (w2.setCell ⟨X, i, none⟩ v') := by
  have hlt := h.own.lt
  have hz := h.turns.size
  have t1 : Turns (fun b => b = X) Wi w2 := turns_grown (N := 0) hg (h.turns.alloc o) fun g hg' => (hlt g hg').1
  have t2 : Turns (fun b => b = X) w2 (w2.setCell ⟨X, i, none⟩ v') := (Turns.refl (fun b => b = X) w2).setCell (b := X) rfl i _
  have hb2 : w2.heap[X]? = some (.cells #[c0, c1, c2] 27 (0, 0)) := (hg.block X (by simp; omega) (fun e => by have := hlt X e.symm; omega)).trans ((heap_old _ _ _ (by omega)).trans h.box)
  refine ⟨ownsRow_turned (by rw [rowsOf_succ]; exact hown) t2 (fun k hk e => by omega), ?_, t1.trans (t2.mono fun _ _ h => h)⟩
  rw [setCell_heap hb2, hi]
theorem Grow.mid {Wi : World} {X : Nat} {e : TypeId} {s : Nat} {row : Nat → List Value} {v : Value} {k : Nat} {c0 c1 c2 : Value} {wr : World} (h : Grow Wi X e s row v k c0 c1 c2 wr) (hX : X < Wi.heap.size) {o : Obj} {w2 : World} (hg : (wr.alloc o).grownBy w2 v.ownBlock) : w2.heap[X]? = some (.cells #[c0, c1, c2] 27 (0, 0)) := by
  have hlt := h.own.lt
  have hz := h.turns.size
  exact (hg.block X (by simp; omega) (fun e => by have := hlt X e.symm; omega)).trans ((heap_old _ _ _ (by omega)).trans h.box)
theorem Grow.kept {Wi : World} {X : Nat} {e : TypeId} {s : Nat} {row : Nat → List Value} {v : Value} {k : Nat} {c0 c1 c2 : Value} {wr : World} (h : Grow Wi X e s row v k c0 c1 c2 wr) (hX : X < Wi.heap.size) {w2 : World} (ht : Turns (fun b => b = X) wr w2) : w2.ownsRow Wi.heap.size e s v k (rowsOf row k) :=
  ownsRow_turned h.own ht (fun k hk e => by omega)
def progSrc (j : Nat) : List Value := [.string (One 112), .slice none 0 0, .slice none 0 0, .int .i64 j, .int .i64 0]
def mapSrc (j : Nat) : List Value := [.string (One 109), .int .i64 2, .int .i64 1, .int .i64 1, .int .i64 (1 + j), .slice none 0 0]
def linkSrc (j : Nat) : List Value := [.string (One 108), .string (One 112), .int .i64 j]
def Many (na nb nc : Nat) : Im := ⟨na, nb, nc, fun j => j, fun _ => 2, fun j => 1 + j, fun _ => Emp, fun j => j⟩
theorem many_good (na nb nc : Nat) (hb : nb ≤ 100) : (Many na nb nc).Good := fun j hj => .inl ⟨rfl, by simp [Many], by simp [Many] at hj ⊢; omega, rfl⟩
theorem many_src (na nb nc q0 q1 q2 b0 b1 b2 : Nat) (a0 a1 a2 : Option Addr) (w : World) (ha : na ≤ 100) (hb : nb ≤ 100) (hc : nc ≤ 100) (o0 : w.ownsRow b0 31 5 (.slice a0 na q0) na (rowsOf progSrc na)) (o1 : w.ownsRow b1 35 6 (.slice a1 nb q1) nb (rowsOf mapSrc nb)) (o2 : w.ownsRow b2 37 3 (.slice a2 nc q2) nc (rowsOf linkSrc nc)) :
    SrcAt (Many na nb nc) (fun _ => .slice none 0 0) (blk a0) (blk a1) (blk a2) a0 a1 a2 w := by
  have hdv : DV (.slice none 0 0) Emp w := .inl ⟨rfl, none, 0, by simp⟩
  refine ⟨⟨fun j hj => ?_, fun j hj => ?_, fun j hj => ?_⟩, fine_of _ _ _ w (many_good na nb nc hb) (fun j hj => ?_) (fun j hj => ?_) (fun j hj => ⟨none, 0, by simp⟩) (fun j hj => hdv), fun j hj => hdv.conv, fun j hj => ⟨none, 0, 0, rfl⟩, fun h => row_head o0 h, fun h => row_head o1 h, fun h => row_head o2 h⟩
  · have hj' : j < na := hj
    have ha := row_head o0 (by omega)
    have hc := fun i u hi hu => row_cell o0 (fun _ _ => rfl) ha j hj' i u hi hu
    exact ⟨hc 0 _ (by decide) rfl, hc 1 _ (by decide) rfl, hc 2 _ (by decide) rfl, hc 3 _ (by decide) rfl, hc 4 _ (by decide) rfl⟩
  · have hj' : j < nb := hj
    have ha := row_head o1 (by omega)
    have hc := fun i u hi hu => row_cell o1 (fun _ _ => rfl) ha j hj' i u hi hu
    refine ⟨hc 0 _ (by decide) rfl, hc 1 _ (by decide) rfl, hc 2 _ (by decide) rfl, hc 3 _ (by decide) rfl, hc 4 _ (by decide) ?_, hc 5 _ (by decide) rfl⟩
    simp [mapSrc, Many, Im.desc]
  · have hj' : j < nc := hj
    have ha := row_head o2 (by omega)
    have hc := fun i u hi hu => row_cell o2 (fun _ _ => rfl) ha j hj' i u hi hu
    exact ⟨hc 0 _ (by decide) rfl, hc 1 _ (by decide) rfl, hc 2 _ (by decide) rfl⟩
  · have hj' : j < na := hj
    show j ≤ 256
    omega
  · have hj' : j < nc := hj
    show j ≤ 1000
    omega
theorem right_eq (na nb nc : Nat) (R : Bool) (hR : R = (Many na nb nc).right) (m : Int) (hm : (na : Int) ≤ m ∧ (nb : Int) ≤ m ∧ (nc : Int) ≤ m ∧ (m = na ∨ m = nb ∨ m = nc)) : decide (m ≤ 64) = R := by
  rw [hR]
  show decide (m ≤ 64) = (decide ((na : Int) ≤ 64) && decide ((nb : Int) ≤ 64) && decide ((nc : Int) ≤ 64))
  rw [Bool.eq_iff_iff]
  simp
  omega
theorem many_ok (na nb nc : Nat) (h : true = (Many na nb nc).right) : (Many na nb nc).Ok := by
  have h' : (decide ((na : Int) ≤ 64) && decide ((nb : Int) ≤ 64) && decide ((nc : Int) ≤ 64)) = true := h.symm
  simp only [Bool.and_eq_true, decide_eq_true_eq] at h'
  obtain ⟨⟨h0, h1⟩, h2⟩ := h'
  exact ⟨by show na ≤ 64; omega, by show nb ≤ 64; omega, by show nc ≤ 64; omega, fun j hj => by have h : j < na := hj; show j ≤ 256; omega, fun j hj => by show 2 ≤ 4096; omega, fun j hj => by have h : j < nb := hj; show 1 + j ≤ 4096; omega, fun j hj => by show 0 ≤ 100; omega, fun j hj => by have h : j < nc := hj; show j ≤ 1000; omega⟩
theorem bs_pos (I : Im) : 0 < I.bs.length := by
  simp only [Im.bs, List.length_append, be4_length]; omega
theorem encMany (na nb nc : Nat) (h : true = (Many na nb nc).right) (B0 B1 B2 q0 q1 q2 : Nat) (a0 a1 a2 : Option Addr) (w : World) (hs : SrcAt (Many na nb nc) (fun _ => .slice none 0 0) B0 B1 B2 a0 a1 a2 w) :
    Calls Tryz.prog 5 #[.agg #[.slice a0 na q0, .slice a1 nb q1, .slice a2 nc q2]] w fun e W => ∃ c L cq, e = .returned (.tuple #[.slice c L cq, .int .i64 0]) ∧ L = (Many na nb nc).bs.length ∧ W.ownsRow w.heap.size 5 1 (.slice c L cq) L ((Many na nb nc).bs.map u8) ∧ Below w.heap.size w W := by
  refine (encode5 (Many na nb nc) (many_ok na nb nc h) _ B0 B1 B2 q0 q1 q2 a0 a1 a2 w hs).mono ?_
  rintro e W ⟨v, he, ho, hb⟩
  obtain ⟨c, cq, rfl⟩ := ownsRow_form ho
  exact ⟨c, _, cq, he, rfl, ho, hb⟩
theorem decMany (na nb nc : Nat) (h : true = (Many na nb nc).right) (c : Option Addr) (L cq base : Nat) (hL : L = (Many na nb nc).bs.length) (W : World) (ho : W.ownsRow base 5 1 (.slice c L cq) L ((Many na nb nc).bs.map u8)) :
    Calls Tryz.prog 7 #[.slice c L cq] W fun e w' => ∃ a0 q0 a1 q1 a2 q2, e = .returned (.tuple #[.agg #[.slice a0 na q0, .slice a1 nb q1, .slice a2 nc q2], .int .i64 0]) ∧
      (∀ m, nb = m + 1 → ∃ g, a1 = some ⟨g, 0, none⟩ ∧ w'.cell? ⟨g, m * 6 + 4, none⟩ = some (.int .i64 (m + 1)) ∧ m + 1 ≤ q1 ∧ q1 ≤ maxLen) ∧
      (∀ m, nc = m + 1 → ∃ g, a2 = some ⟨g, 0, none⟩ ∧ w'.cell? ⟨g, m * 3 + 2, none⟩ = some (.int .i64 m) ∧ m + 1 ≤ q2 ∧ q2 ≤ maxLen) ∧ Below W.heap.size W w' := by
  have hok := many_ok na nb nc h
  refine (dec_own (Many na nb nc) hok (many_good na nb nc (by have : nb ≤ 64 := hok.nm; omega)) c L cq base hL (by rw [hL]; exact bs_pos _) W ho).mono ?_
  rintro e w' ⟨a0, q0, a1, q1, a2, q2, Zp, cp, Zm, cm, Zl, cl, rfl, hra, hb⟩
  have hi := hra.img
  have hq : ∀ {e s n : Nat} {xs : List Value} {a : Option Addr} {q : Nat}, w'.ownsRow W.heap.size e s (.slice a n q) n xs → 0 < n → n ≤ q ∧ q ≤ maxLen := by
    intro e s n xs a q ho hn
    rcases ho.2 with ⟨_, h0⟩ | ⟨g, cp, cur, h0, _, _, h1, h2, _⟩
    · omega
    · injection h0 with _ _ h3; subst h3; exact ⟨h1, h2⟩
  refine ⟨a0, q0, a1, q1, a2, q2, rfl, fun m hm => ?_, fun m hm => ?_, hb⟩
  · subst hm
    have e1 := row_head hra.o1 (show 0 < m + 1 by omega)
    have c1 := (hi.m m (show m < m + 1 by omega)).2.2.2.2.1
    have k := hq hra.o1 (show 0 < m + 1 by omega)
    refine ⟨blk a1, e1, c1.trans ?_, k⟩
    simp [Im.desc, Many]; omega
  · subst hm
    have e2 := row_head hra.o2 (show 0 < m + 1 by omega)
    have c2 := (hi.l m (show m < m + 1 by omega)).2.2
    have k := hq hra.o2 (show 0 < m + 1 by omega)
    exact ⟨blk a2, e2, c2, k⟩
end Go.Proofs.YtfhjffkcobmkaaaGreat
