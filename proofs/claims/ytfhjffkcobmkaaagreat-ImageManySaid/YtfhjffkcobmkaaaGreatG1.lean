/- The writer called with one text or number, with two, with four; Encode of an image with too many. -/
import Derived.WalkKit
import Derived.Lib.Hide
import Derived.WalkLawsBesides
import Derived.WalkSpells
import Derived.BigQuiet
import Derived.Deep.QuietTactic
import Derived.Handy
import Derived.RangeFuncBox
import Derived.Shelf.Abstract
import Derived.Deep.RegionWith
import Derived.Deep.RegionHeld3
import Derived.StillTailTactics
import Derived.Lib.AppendStr
import Derived.RangeFuncNested
import Derived.RangeFuncBound
import Derived.RangeFuncCalls
import Derived.RangeFuncLeaves
import Derived.Shelf.AbstractIn
import Derived.Shelf.RegionOpen
import Derived.OwnWalkIn
import Derived.TacticsInMore
import Derived.LoopNIn
import Derived.LoopIn
import Derived.LaidEqlPtr
import Derived.Lib.Builder
import Derived.Lib.ConvBytes
import Derived.Maps.AppendAt
import Derived.Deep.DeepCutAuto
import Derived.Defers
import Derived.Recover
import Derived.Test.YtfhjffkcobmkaaaGreatF4
set_option linter.unusedVariables false
set_option linter.unusedSimpArgs false
namespace Go.Proofs.YtfhjffkcobmkaaaGreat
open Go.RowKit
theorem num1 (B A : Nat) (pre : List UInt8) (x : Int) (W : World) (hA : A = W.heap.size) (hw : Wr W B pre) (h0 : 0 ≤ x) (h1 : x ≤ 4096) (hl : pre.length ≤ 50000) :
    Calls Tryz.prog 8 #[.pointer (some ⟨B, 0, none⟩), .slice (some ⟨A, 0, none⟩) 1 1] (W.alloc (.cells #[.int .i64 x] 3)) fun e w' => e = .returned (.tuple #[]) ∧ Wr w' B (pre ++ be4 x) ∧ WKeep B W w' := by
  subst hA
  have hB : B < W.heap.size := by obtain ⟨v, hb, _⟩ := hw; exact hb.lt
  refine (numbers8 B W.heap.size 1 pre [x] _ hw.box (fun j n hj => ?_) ⟨_, _, World.alloc_heap_new _ _⟩ hB (by intro n hn; simp at hn; omega) (by simp; omega)).mono ?_
  · match j with
    | 0 => simp at hj; subst hj; simp
    | j + 1 => simp at hj
  · rintro e w' ⟨rfl, h2, h3⟩
    exact ⟨rfl, by simpa [bes] using h2, (WKeep.alloc W (by omega) _).trans h3⟩
theorem num2 (B A : Nat) (pre : List UInt8) (x y : Int) (W : World) (hA : A = W.heap.size) (hw : Wr W B pre) (h0 : 0 ≤ x) (h1 : x ≤ 4096) (h2 : 0 ≤ y) (h3 : y ≤ 4096) (hl : pre.length ≤ 50000) :
    Calls Tryz.prog 8 #[.pointer (some ⟨B, 0, none⟩), .slice (some ⟨A, 0, none⟩) 2 2] (W.alloc (.cells #[.int .i64 x, .int .i64 y] 3)) fun e w' => e = .returned (.tuple #[]) ∧ Wr w' B (pre ++ (be4 x ++ be4 y)) ∧ WKeep B W w' := by
  subst hA
  have hB : B < W.heap.size := by obtain ⟨v, hb, _⟩ := hw; exact hb.lt
  refine (numbers8 B W.heap.size 2 pre [x, y] _ hw.box (fun j n hj => ?_) ⟨_, _, World.alloc_heap_new _ _⟩ hB (by intro n hn; simp at hn; omega) (by simp; omega)).mono ?_
  · match j with
    | 0 => simp at hj; subst hj; simp
    | 1 => simp at hj; subst hj; simp
    | j + 2 => simp at hj
  · rintro e w' ⟨rfl, h2, h3⟩
    exact ⟨rfl, by simpa [bes] using h2, (WKeep.alloc W (by omega) _).trans h3⟩
theorem num4 (B A : Nat) (pre : List UInt8) (x y z t : Int) (W : World) (hA : A = W.heap.size) (hw : Wr W B pre) (h0 : 0 ≤ x) (h1 : x ≤ 4096) (h2 : 0 ≤ y) (h3 : y ≤ 4096) (h4 : 0 ≤ z) (h5 : z ≤ 4096) (h6 : 0 ≤ t) (h7 : t ≤ 4096) (hl : pre.length ≤ 50000) :
    Calls Tryz.prog 8 #[.pointer (some ⟨B, 0, none⟩), .slice (some ⟨A, 0, none⟩) 4 4] (W.alloc (.cells #[.int .i64 x, .int .i64 y, .int .i64 z, .int .i64 t] 3)) fun e w' => e = .returned (.tuple #[]) ∧ Wr w' B (pre ++ (be4 x ++ (be4 y ++ (be4 z ++ be4 t)))) ∧ WKeep B W w' := by
  subst hA
  have hB : B < W.heap.size := by obtain ⟨v, hb, _⟩ := hw; exact hb.lt
  refine (numbers8 B W.heap.size 4 pre [x, y, z, t] _ hw.box (fun j n hj => ?_) ⟨_, _, World.alloc_heap_new _ _⟩ hB (by intro n hn; simp at hn; omega) (by simp; omega)).mono ?_
  · match j with
    | 0 => simp at hj; subst hj; simp
    | 1 => simp at hj; subst hj; simp
    | 2 => simp at hj; subst hj; simp
    | 3 => simp at hj; subst hj; simp
    | j + 4 => simp at hj
  · rintro e w' ⟨rfl, h2, h3⟩
    exact ⟨rfl, by simpa [bes] using h2, (WKeep.alloc W (by omega) _).trans h3⟩
theorem text1 (B A : Nat) (pre : List UInt8) (a : ByteArray) (W : World) (hA : A = W.heap.size) (hw : Wr W B pre) (ha : a.size ≤ 100) (hl : pre.length ≤ 50000) :
    Calls Tryz.prog 9 #[.pointer (some ⟨B, 0, none⟩), .slice (some ⟨A, 0, none⟩) 1 1] (W.alloc (.cells #[.string a] 9)) fun e w' => e = .returned (.tuple #[]) ∧ Wr w' B (pre ++ tx a) ∧ WKeep B W w' := by
  subst hA
  have hB : B < W.heap.size := by obtain ⟨v, hb, _⟩ := hw; exact hb.lt
  refine (texts9 B W.heap.size 1 pre [a] _ hw.box (fun j n hj => ?_) ⟨_, _, World.alloc_heap_new _ _⟩ hB (by intro n hn; simp at hn; subst hn; exact ha) (by simp; omega)).mono ?_
  · match j with
    | 0 => simp at hj; subst hj; simp
    | j + 1 => simp at hj
  · rintro e w' ⟨rfl, h2, h3⟩
    exact ⟨rfl, by simpa [txs] using h2, (WKeep.alloc W (by omega) _).trans h3⟩
theorem text2 (B A : Nat) (pre : List UInt8) (a b : ByteArray) (W : World) (hA : A = W.heap.size) (hw : Wr W B pre) (ha : a.size ≤ 100) (hb : b.size ≤ 100) (hl : pre.length ≤ 50000) :
    Calls Tryz.prog 9 #[.pointer (some ⟨B, 0, none⟩), .slice (some ⟨A, 0, none⟩) 2 2] (W.alloc (.cells #[.string a, .string b] 9)) fun e w' => e = .returned (.tuple #[]) ∧ Wr w' B (pre ++ (tx a ++ tx b)) ∧ WKeep B W w' := by
  subst hA
  have hB : B < W.heap.size := by obtain ⟨v, hb, _⟩ := hw; exact hb.lt
  refine (texts9 B W.heap.size 2 pre [a, b] _ hw.box (fun j n hj => ?_) ⟨_, _, World.alloc_heap_new _ _⟩ hB (by intro n hn; simp at hn; rcases hn with rfl | rfl <;> assumption) (by simp; omega)).mono ?_
  · match j with
    | 0 => simp at hj; subst hj; simp
    | 1 => simp at hj; subst hj; simp
    | j + 2 => simp at hj
  · rintro e w' ⟨rfl, h2, h3⟩
    exact ⟨rfl, by simpa [txs] using h2, (WKeep.alloc W (by omega) _).trans h3⟩
def Im.desc (I : Im) (code dv : Nat → Value) : Desc := ⟨I.np, I.nm, I.nl, code, fun _ => .slice none 0 0, fun j => I.ctx j, fun j => I.kd j, fun j => I.mx j, dv, fun j => I.ver j⟩
/-- An image that is to be written -/
structure SrcAt (I : Im) (dv : Nat → Value) (B0 B1 B2 : Nat) (a0 a1 a2 : Option Addr) (w : World) : Prop where
  img : ImgAt w (I.desc (fun _ => .slice none 0 0) dv) B0 B1 B2
  fine : Fine w (I.desc (fun _ => .slice none 0 0) dv)
  conv : ∀ j, j < I.nm → ∀ W, Below w.heap.size w W → (convert 28 9 (dv j)).run Tryz.prog W = .ok (.string (I.sf j)) W
  form : ∀ j, j < I.nm → ∃ a n c, dv j = .slice a n c
  h0 : 0 < I.np → a0 = some ⟨B0, 0, none⟩
  h1 : 0 < I.nm → a1 = some ⟨B1, 0, none⟩
  h2 : 0 < I.nl → a2 = some ⟨B2, 0, none⟩
/-- the bounds of an image that may be written -/
structure Im.Wide (I : Im) : Prop where
  np : I.np ≤ 100
  nm : I.nm ≤ 100
  nl : I.nl ≤ 100
  ctx : ∀ j, j < I.np → I.ctx j ≤ 256
  kd : ∀ j, j < I.nm → I.kd j ≤ 4096
  mx : ∀ j, j < I.nm → I.mx j ≤ 4096
  sf : ∀ j, j < I.nm → (I.sf j).size ≤ 100
  ver : ∀ j, j < I.nl → I.ver j ≤ 1000
def Im.right (I : Im) : Bool := decide ((I.np : Int) ≤ 64) && decide ((I.nm : Int) ≤ 64) && decide ((I.nl : Int) ≤ 64)
theorem encode5no (I : Im) (hI : I.Wide) (hno : I.right = false) (dv : Nat → Value) (B0 B1 B2 q0 q1 q2 : Nat) (a0 a1 a2 : Option Addr) (w : World) (hs : SrcAt I dv B0 B1 B2 a0 a1 a2 w) :
    Calls Tryz.prog 5 #[.agg #[.slice a0 I.np q0, .slice a1 I.nm q1, .slice a2 I.nl q2]] w fun e W => e = .returned (.tuple #[.slice none 0 0, .int .i64 1]) ∧ Below w.heap.size w W := by
  have i0 := hI.np
  have i1 := hI.nm
  have i2 := hI.nl
  have hr := Lib.hid (fun W (hb : Below w.heap.size w W) => right6 (I.desc (fun _ => .slice none 0 0) dv) B0 B1 B2 q0 q1 q2 a0 a1 a2 W (hs.img.later hb) (hs.fine.later hb) hs.h0 hs.h1 hs.h2 (by show I.np ≤ 1000; omega) (by show I.nm ≤ 1000; omega) (by show I.nl ≤ 1000; omega))
  have hb0 := (Below.refl w.heap.size w).alloc (Nat.le_refl _) (.cells #[.slice a0 I.np q0, .slice a1 I.nm q1, .slice a2 I.nl q2] 27)
  have hno := Lib.hid hno
  have hb0' := Lib.hid hb0
  clear hs hI hb0
  go_enter Tryz.func5, Tryz.ntmps5
  go_wp2_with fail
  refine (hr.out _ hb0'.out).mono ?_
  rintro e w1 ⟨rfl, hb1⟩
  rw [show (decide (((I.desc (fun _ => .slice none 0 0) dv).np : Int) ≤ 64) && decide (((I.desc (fun _ => .slice none 0 0) dv).nm : Int) ≤ 64) && decide (((I.desc (fun _ => .slice none 0 0) dv).nl : Int) ≤ 64)) = false from hno.out]
  have hfin := Lib.hid (hb0'.out.trans (hb1.mono (by simp)))
  clear hb1
  go_wp2_with fail
  go_ret2
  exact ⟨rfl, hfin.out⟩
end Go.Proofs.YtfhjffkcobmkaaaGreat
