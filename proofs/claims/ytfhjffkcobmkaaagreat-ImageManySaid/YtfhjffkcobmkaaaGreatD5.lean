/- Right of an image told by its rows. -/
import Derived.WalkKit
import Derived.Lib.Hide
import Derived.WalkLawsBesides
import Derived.WalkSpells
import Derived.BigQuiet
import Derived.Deep.QuietTactic
import Derived.Handy
import Derived.RangeFuncBox
import Derived.Shelf.Abstract
import Derived.Deep.RegionWith
import Derived.Deep.RegionHeld3
import Derived.StillTailTactics
import Derived.Lib.AppendStr
import Derived.RangeFuncNested
import Derived.RangeFuncBound
import Derived.RangeFuncCalls
import Derived.RangeFuncLeaves
import Derived.Shelf.AbstractIn
import Derived.Shelf.RegionOpen
import Derived.OwnWalkIn
import Derived.TacticsInMore
import Derived.LoopNIn
import Derived.LoopIn
import Derived.LaidEqlPtr
import Derived.Lib.Builder
import Derived.Test.YtfhjffkcobmkaaaGreatD4
set_option linter.unusedVariables false
set_option linter.unusedSimpArgs false
namespace Go.Proofs.YtfhjffkcobmkaaaGreat
open Go.RowKit
/-- What an image tells -/
structure Desc where
  np : Nat
  nm : Nat
  nl : Nat
  code : Nat → Value
  maps : Nat → Value
  ctx : Nat → Int
  kind : Nat → Int
  mx : Nat → Int
  data : Nat → Value
  ver : Nat → Int
/-- its three rows in the memory -/
structure ImgAt (w : World) (D : Desc) (B0 B1 B2 : Nat) : Prop where
  p : ∀ j, j < D.np → w.cell? ⟨B0, j * 5, none⟩ = some (.string (One 112)) ∧ w.cell? ⟨B0, j * 5 + 1, none⟩ = some (D.code j) ∧ w.cell? ⟨B0, j * 5 + 2, none⟩ = some (D.maps j) ∧ w.cell? ⟨B0, j * 5 + 3, none⟩ = some (.int .i64 (D.ctx j)) ∧ w.cell? ⟨B0, j * 5 + 4, none⟩ = some (.int .i64 0)
  m : ∀ j, j < D.nm → w.cell? ⟨B1, j * 6, none⟩ = some (.string (One 109)) ∧ w.cell? ⟨B1, j * 6 + 1, none⟩ = some (.int .i64 (D.kind j)) ∧ w.cell? ⟨B1, j * 6 + 2, none⟩ = some (.int .i64 1) ∧ w.cell? ⟨B1, j * 6 + 3, none⟩ = some (.int .i64 1) ∧ w.cell? ⟨B1, j * 6 + 4, none⟩ = some (.int .i64 (D.mx j)) ∧ w.cell? ⟨B1, j * 6 + 5, none⟩ = some (D.data j)
  l : ∀ j, j < D.nl → w.cell? ⟨B2, j * 3, none⟩ = some (.string (One 108)) ∧ w.cell? ⟨B2, j * 3 + 1, none⟩ = some (.string (One 112)) ∧ w.cell? ⟨B2, j * 3 + 2, none⟩ = some (.int .i64 (D.ver j))
/-- each of its parts is right by itself -/
structure Fine (w : World) (D : Desc) : Prop where
  p : ∀ j, j < D.np → YesP w 11 (.string (One 112)) (D.code j) (D.maps j) (.int .i64 (D.ctx j)) (.int .i64 0)
  m : ∀ j, j < D.nm → YesD w 13 (.string (One 109)) (.int .i64 (D.kind j)) (.int .i64 1) (.int .i64 1) (.int .i64 (D.mx j)) (D.data j)
  l : ∀ j, j < D.nl → YesL w 15 (.string (One 108)) (.string (One 112)) (.int .i64 (D.ver j))
theorem keepc {w W : World} (hb : Below w.heap.size w W) {p : Addr} {v : Value} (h : w.cell? p = some v) : W.cell? p = some v := (hb.cell (p := p) (World.block_lt_of_cell? w _ h)).trans h
theorem ImgAt.later {w W : World} {D : Desc} {B0 B1 B2 : Nat} (h : ImgAt w D B0 B1 B2) (hb : Below w.heap.size w W) : ImgAt W D B0 B1 B2 :=
  ⟨fun j hj => have q := h.p j hj; ⟨keepc hb q.1, keepc hb q.2.1, keepc hb q.2.2.1, keepc hb q.2.2.2.1, keepc hb q.2.2.2.2⟩,
   fun j hj => have q := h.m j hj; ⟨keepc hb q.1, keepc hb q.2.1, keepc hb q.2.2.1, keepc hb q.2.2.2.1, keepc hb q.2.2.2.2.1, keepc hb q.2.2.2.2.2⟩,
   fun j hj => have q := h.l j hj; ⟨keepc hb q.1, keepc hb q.2.1, keepc hb q.2.2⟩⟩
theorem Fine.later {w W : World} {D : Desc} (h : Fine w D) (hb : Below w.heap.size w W) : Fine W D := ⟨fun j hj => (h.p j hj).later hb, fun j hj => (h.m j hj).later hb, fun j hj => (h.l j hj).later hb⟩
theorem ent11 : ∀ (args : Array Value) (w : World), (callFunc 11 args).run Tryz.prog w = .ok (.enter 11 args) w := enters_of Tryz.func11 (by kernel_rfl) rfl
theorem ent15 : ∀ (args : Array Value) (w : World), (callFunc 15 args).run Tryz.prog w = .ok (.enter 15 args) w := enters_of Tryz.func15 (by kernel_rfl) rfl
set_option maxHeartbeats 800000 in
theorem right6 (D : Desc) (B0 B1 B2 q0 q1 q2 : Nat) (a0 a1 a2 : Option Addr) (w : World) (hI : ImgAt w D B0 B1 B2) (hF : Fine w D) (h0 : 0 < D.np → a0 = some ⟨B0, 0, none⟩) (h1 : 0 < D.nm → a1 = some ⟨B1, 0, none⟩) (h2 : 0 < D.nl → a2 = some ⟨B2, 0, none⟩)
    (n0 : D.np ≤ 1000) (n1 : D.nm ≤ 1000) (n2 : D.nl ≤ 1000) :
    Calls Tryz.prog 6 #[.agg #[.slice a0 D.np q0, .slice a1 D.nm q1, .slice a2 D.nl q2]] w fun e W => e = .returned (.bool (decide ((D.np : Int) ≤ 64) && decide ((D.nm : Int) ≤ 64) && decide ((D.nl : Int) ≤ 64))) ∧ Below w.heap.size w W := by
  have c0 := Lib.hid (fun (W : World) (hb : Below w.heap.size w W) => all10 11 B0 D.np q0 64 a0 _ _ _ _ _ W h0 n0 (hI.later hb).p (hF.later hb).p ent11)
  have c1 := Lib.hid (fun (W : World) (hb : Below w.heap.size w W) => all12 13 B1 D.nm q1 64 a1 _ _ _ _ _ _ W h1 n1 (hI.later hb).m (hF.later hb).m ent13)
  have c2 := Lib.hid (fun (W : World) (hb : Below w.heap.size w W) => all14 15 B2 D.nl q2 64 a2 _ _ _ W h2 n2 (hI.later hb).l (hF.later hb).l ent15)
  generalize decide ((D.np : Int) ≤ 64) = t0 at c0 ⊢
  generalize decide ((D.nm : Int) ≤ 64) = t1 at c1 ⊢
  generalize decide ((D.nl : Int) ≤ 64) = t2 at c2 ⊢
  clear hI hF h0 h1 h2 n0 n1 n2
  have hb0 := (Below.refl w.heap.size w).alloc (Nat.le_refl _) (.cells #[.slice a0 D.np q0, .slice a1 D.nm q1, .slice a2 D.nl q2] 27)
  have z0 : ∀ W, Below (w.heap.size + 1) (w.alloc (.cells #[.slice a0 D.np q0, .slice a1 D.nm q1, .slice a2 D.nl q2] 27)) W → W.cell? ⟨w.heap.size, 0, none⟩ = some (.slice a0 D.np q0) ∧ W.cell? ⟨w.heap.size, 1, none⟩ = some (.slice a1 D.nm q1) ∧ W.cell? ⟨w.heap.size, 2, none⟩ = some (.slice a2 D.nl q2) := fun W hW => by
    have h3 := (hW.block w.heap.size (by omega)).trans (heap_new w _ _ rfl)
    simp [World.cell?, h3]
  have z0 := Lib.hid z0
  go_enter Tryz.func6, Tryz.ntmps6
  go_wp2_with fail
  refine (c0.out _ hb0).mono ?_
  rintro e w1 ⟨rfl, hb1⟩
  obtain ⟨y0, y1, y2⟩ := z0.out w1 (by simpa using hb1)
  have hbw1 := hb0.trans (hb1.mono (by simp))
  cases t0 with
  | false =>
    go_wp2_with fail
    go_ret
    exact ⟨rfl, hbw1⟩
  | true =>
    go_wp2_with fail
    refine (c1.out _ hbw1).mono ?_
    rintro e w2 ⟨rfl, hb2⟩
    have hs2 := hb2.size
    have hs1 := hb1.size
    clear y0 y1 y2
    obtain ⟨y0, y1, y2⟩ := z0.out w2 (by simpa using (hb1.trans (hb2.mono (by simpa using hs1))))
    have hbw2 := hbw1.trans (hb2.mono hbw1.size)
    cases t1 with
    | false =>
      go_wp2_with fail
      go_ret
      exact ⟨rfl, hbw2⟩
    | true =>
      go_wp2_with fail
      refine (c2.out _ hbw2).mono ?_
      rintro e w3 ⟨rfl, hb3⟩
      go_wp2_with fail
      go_ret
      exact ⟨by simp, hbw2.trans (hb3.mono hbw2.size)⟩
end Go.Proofs.YtfhjffkcobmkaaaGreat
