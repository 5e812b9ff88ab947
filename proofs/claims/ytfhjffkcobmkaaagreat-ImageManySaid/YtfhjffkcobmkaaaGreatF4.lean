/- An image read whole. -/
import Derived.WalkKit
import Derived.Lib.Hide
import Derived.WalkLawsBesides
import Derived.WalkSpells
import Derived.BigQuiet
import Derived.Deep.QuietTactic
import Derived.Handy
import Derived.RangeFuncBox
import Derived.Shelf.Abstract
import Derived.Deep.RegionWith
import Derived.Deep.RegionHeld3
import Derived.StillTailTactics
import Derived.Lib.AppendStr
import Derived.RangeFuncNested
import Derived.RangeFuncBound
import Derived.RangeFuncCalls
import Derived.RangeFuncLeaves
import Derived.Shelf.AbstractIn
import Derived.Shelf.RegionOpen
import Derived.OwnWalkIn
import Derived.TacticsInMore
import Derived.LoopNIn
import Derived.LoopIn
import Derived.LaidEqlPtr
import Derived.Lib.Builder
import Derived.Lib.ConvBytes
import Derived.Maps.AppendAt
import Derived.Deep.DeepCutAuto
import Derived.Defers
import Derived.Recover
import Derived.Test.YtfhjffkcobmkaaaGreatF3
set_option linter.unusedVariables false
set_option linter.unusedSimpArgs false
namespace Go.Proofs.YtfhjffkcobmkaaaGreat
open Go.RowKit
/-- What an image tells, in bytes -/
structure Im where
  np : Nat
  nm : Nat
  nl : Nat
  ctx : Nat → Nat
  kd : Nat → Nat
  mx : Nat → Nat
  sf : Nat → ByteArray
  ver : Nat → Nat
structure Im.Ok (I : Im) : Prop where
  np : I.np ≤ 64
  nm : I.nm ≤ 64
  nl : I.nl ≤ 64
  ctx : ∀ j, j < I.np → I.ctx j ≤ 256
  kd : ∀ j, j < I.nm → I.kd j ≤ 4096
  mx : ∀ j, j < I.nm → I.mx j ≤ 4096
  sf : ∀ j, j < I.nm → (I.sf j).size ≤ 100
  ver : ∀ j, j < I.nl → I.ver j ≤ 1000
def Emp : ByteArray := ⟨#[]⟩
def progBs (ctx : Nat → Nat) (j : Nat) : List UInt8 := tx (One 112) ++ (tx Emp ++ (be4 (0 : Nat) ++ (be4 (ctx j) ++ be4 (0 : Nat))))
def dumpBs (kd mx : Nat → Nat) (sf : Nat → ByteArray) (j : Nat) : List UInt8 := tx (One 109) ++ (be4 (kd j) ++ (be4 (1 : Nat) ++ (be4 (1 : Nat) ++ (be4 (mx j) ++ tx (sf j)))))
def linkBs (ver : Nat → Nat) (j : Nat) : List UInt8 := tx (One 108) ++ (tx (One 112) ++ be4 (ver j))
def Im.bs (I : Im) : List UInt8 := be4 (721 : Nat) ++ (be4 I.np ++ (flat (progBs I.ctx) 0 I.np ++ (be4 I.nm ++ (flat (dumpBs I.kd I.mx I.sf) 0 I.nm ++ (be4 I.nl ++ flat (linkBs I.ver) 0 I.nl)))))
/-- the three rows of an image that was read, of blocks not below base -/
structure ReadAt (I : Im) (base : Nat) (v0 v1 v2 : Value) (Zp cp Zm cm Zl cl : Nat → Nat) (W : World) : Prop where
  o0 : W.ownsRow base 31 5 v0 I.np (rowsOf (fun j => progRow I.ctx (fun _ => Emp) j (Zp j) (cp j)) I.np)
  o1 : W.ownsRow base 35 6 v1 I.nm (rowsOf (fun j => dumpRow I.kd I.mx I.sf j (Zm j) (cm j)) I.nm)
  o2 : W.ownsRow base 37 3 v2 I.nl (rowsOf (fun j => linkRow I.ver j (Zl j) (cl j)) I.nl)
  data : ∀ j, j < I.nm → DataAt (I.sf j) (Zm j) (cm j) W ∧ (0 < (I.sf j).size → base ≤ Zm j)
theorem ownsRow_base {w : World} {b b' : Nat} {e : TypeId} {s : Nat} {v : Value} {n : Nat} {xs : List Value} (h : w.ownsRow b e s v n xs) (hb : b' ≤ b) : w.ownsRow b' e s v n xs := by
  refine ⟨h.1, ?_⟩
  rcases h.2 with h0 | ⟨g, cap, cur, he, h1, r⟩
  · exact .inl h0
  · exact .inr ⟨g, cap, cur, he, by omega, r⟩
theorem Turns.wider {S : Nat → Prop} {a b : World} {R : Nat} (h : Turns S a b) (hs : ∀ k, k < a.heap.size → S k → k = R) : Turns (fun b => b = R) a b := h.mono hs
theorem ownsRow_form {w : World} {b : Nat} {e : TypeId} {s : Nat} {v : Value} {n : Nat} {xs : List Value} (h : w.ownsRow b e s v n xs) : ∃ a q, v = .slice a n q := by
  rcases h.2 with ⟨rfl, rfl⟩ | ⟨g, cap, cur, rfl, _⟩
  · exact ⟨none, 0, rfl⟩
  · exact ⟨_, cap, rfl⟩
set_option maxHeartbeats 1000000 in
set_option maxRecDepth 100000 in
theorem image17 (I : Im) (hI : I.Ok) (R S : Nat) (ys : List UInt8) (w : World) (hR : R < w.heap.size) (hS : S < w.heap.size) (hr : Rd w R S (I.bs ++ ys)) :
    Calls Tryz.prog 17 #[.pointer (some ⟨R, 0, none⟩)] w fun e w' => ∃ a0 q0 a1 q1 a2 q2 Zp cp Zm cm Zl cl, e = .returned (.agg #[.slice a0 I.np q0, .slice a1 I.nm q1, .slice a2 I.nl q2]) ∧ ReadAt I w.heap.size (.slice a0 I.np q0) (.slice a1 I.nm q1) (.slice a2 I.nl q2) Zp cp Zm cm Zl cl w' ∧ Rd w' R S ys ∧ Turns (fun b => b = R) w w' := by
  have HP : ∀ bx, bx ≠ R → ∀ w0 : World, R < w0.heap.size → S < w0.heap.size → Boxed w0 bx 59 (.pointer (some ⟨R, 0, none⟩)) → ∀ j, j < I.np → ∀ W zs, Turns (fun b => b = R) w0 W → Rd W R S (progBs I.ctx j ++ zs) → Calls Tryz.prog 30 #[.pointer (some ⟨bx, 0, none⟩)] W fun e W' => ∃ Z cap, e = .returned (.agg (progRow I.ctx (fun _ => Emp) j Z cap).toArray) ∧ (0 < Emp.size → W.heap.size ≤ Z) ∧ DataAt Emp Z cap W' ∧ Rd W' R S zs ∧ Turns (fun b => b = R) W W' := by
    intro bx hne w0 hR0 hS0 hb j hj W zs ht hd
    refine (program30 R S bx (I.ctx j) (by have := hI.ctx j hj; omega) Emp (by decide) zs W ((ht.block bx hb.lt hne).trans hb) hne (by have := ht.size; omega) (by simpa [progBs] using hd)).mono ?_
    rintro e W' ⟨Z, cap, he, h1, h2, h3, h4⟩
    exact ⟨Z, cap, he, fun _ => h1, h2, h3, h4⟩
  have HM : ∀ bx, bx ≠ R → ∀ w0 : World, R < w0.heap.size → S < w0.heap.size → Boxed w0 bx 59 (.pointer (some ⟨R, 0, none⟩)) → ∀ j, j < I.nm → ∀ W zs, Turns (fun b => b = R) w0 W → Rd W R S (dumpBs I.kd I.mx I.sf j ++ zs) → Calls Tryz.prog 34 #[.pointer (some ⟨bx, 0, none⟩)] W fun e W' => ∃ Z cap, e = .returned (.agg (dumpRow I.kd I.mx I.sf j Z cap).toArray) ∧ (0 < (I.sf j).size → W.heap.size ≤ Z) ∧ DataAt (I.sf j) Z cap W' ∧ Rd W' R S zs ∧ Turns (fun b => b = R) W W' := by
    intro bx hne w0 hR0 hS0 hb j hj W zs ht hd
    refine (dump34 R S bx (I.kd j) (I.mx j) (hI.kd j hj) (hI.mx j hj) (I.sf j) (by have := hI.sf j hj; omega) zs W ((ht.block bx hb.lt hne).trans hb) hne (by have := ht.size; omega) (by simpa [dumpBs] using hd)).mono ?_
    rintro e W' ⟨Z, cap, he, h1, h2, h3, h4, h5, h6⟩
    exact ⟨Z, cap, he, fun _ => h1, ⟨h2, h3, h4⟩, h5, h6⟩
  have HL : ∀ bx, bx ≠ R → ∀ w0 : World, R < w0.heap.size → S < w0.heap.size → Boxed w0 bx 59 (.pointer (some ⟨R, 0, none⟩)) → ∀ j, j < I.nl → ∀ W zs, Turns (fun b => b = R) w0 W → Rd W R S (linkBs I.ver j ++ zs) → Calls Tryz.prog 36 #[.pointer (some ⟨bx, 0, none⟩)] W fun e W' => ∃ Z cap, e = .returned (.agg (linkRow I.ver j Z cap).toArray) ∧ (0 < Emp.size → W.heap.size ≤ Z) ∧ DataAt Emp Z cap W' ∧ Rd W' R S zs ∧ Turns (fun b => b = R) W W' := by
    intro bx hne w0 hR0 hS0 hb j hj W zs ht hd
    refine (link36 R S bx (I.ver j) (by have := hI.ver j hj; omega) zs W ((ht.block bx hb.lt hne).trans hb) hne (by have := ht.size; omega) (by simpa [linkBs] using hd)).mono ?_
    rintro e W' ⟨he, h1, h2⟩
    exact ⟨0, 0, he, fun h => absurd h (by decide), ⟨by decide, by decide, fun j u hj => by simp [Emp] at hj⟩, h1, h2⟩
  have HP' := Lib.hid HP
  have HM' := Lib.hid HM
  have HL' := Lib.hid HL
  clear HP HM HL
  have k0 := hI.np
  have k1 := hI.nm
  have k2 := hI.nl
  have HB := (Below.refl w.heap.size w).alloc (Nat.le_refl _) (.cells #[.pointer (some ⟨R, 0, none⟩)] 59)
  have HB2 : Below w.heap.size w ((w.alloc (.cells #[.pointer (some ⟨R, 0, none⟩)] 59)).alloc (.cells #[.slice none 0 0, .slice none 0 0, .slice none 0 0] 27)) := HB.alloc (by simp) _
  have hs2 : ((w.alloc (.cells #[.pointer (some ⟨R, 0, none⟩)] 59)).alloc (.cells #[.slice none 0 0, .slice none 0 0, .slice none 0 0] 27)).heap.size = w.heap.size + 1 + 1 := by simp
  have hb0 : Boxed ((w.alloc (.cells #[.pointer (some ⟨R, 0, none⟩)] 59)).alloc (.cells #[.slice none 0 0, .slice none 0 0, .slice none 0 0] 27)) w.heap.size 59 (.pointer (some ⟨R, 0, none⟩)) := (Boxed.new w 59 _).alloc _
  have hx0 : ((w.alloc (.cells #[.pointer (some ⟨R, 0, none⟩)] 59)).alloc (.cells #[.slice none 0 0, .slice none 0 0, .slice none 0 0] 27)).heap[w.heap.size + 1]? = _ := heap_new _ _ _ (by simp)
  have hd0 := Lib.hid (hr.later HB2)
  have T0 := Lib.hid (Turns.of_below (S := fun b => b = R) HB2)
  have hc0 := hb0.cell
  clear hr HB HB2
  go_enter Tryz.func17, Tryz.ntmps17
  go_wp2_with fail
  generalize (w.alloc (.cells #[.pointer (some ⟨R, 0, none⟩)] 59)).alloc (.cells #[.slice none 0 0, .slice none 0 0, .slice none 0 0] 27) = wa at hs2 hb0 hx0 hd0 T0 hc0 ⊢
  have hs2' := Lib.hid hs2
  clear hs2
  have hneN : w.heap.size ≠ R := by omega
  refine (number28 R S 721 (by omega) (be4 I.np ++ (flat (progBs I.ctx) 0 I.np ++ (be4 I.nm ++ (flat (dumpBs I.kd I.mx I.sf) 0 I.nm ++ (be4 I.nl ++ (flat (linkBs I.ver) 0 I.nl ++ ys)))))) _ (by simpa [Im.bs] using hd0.out)).mono ?_
  rintro e w1 ⟨rfl, hd1, ht1⟩
  have hs1 : w.heap.size + 2 ≤ w1.heap.size := by have := ht1.size; have := hs2'.out; omega
  have hb1 : Boxed w1 w.heap.size 59 (.pointer (some ⟨R, 0, none⟩)) := (ht1.block _ hb0.lt hneN).trans hb0
  have hx1 := (ht1.block (w.heap.size + 1) (by have := hs2'.out; omega) (by omega)).trans hx0
  have T1 := Lib.hid (T0.out.trans ht1)
  have hd1' := Lib.hid hd1
  have hc1 := hb1.cell
  clear hc0 hb0 hx0 hd0 T0 ht1 hd1
  go_wp2_with fail
  refine (rows29 R S w.heap.size I.np k0 I.ctx (fun _ => Emp) (progBs I.ctx) _ w1 (by omega) (by omega) hd1'.out (HP'.out w.heap.size hneN w1 (by omega) (by omega) hb1)).mono ?_
  rintro e w2 ⟨v0, Zp, cp, rfl, hst0⟩
  obtain ⟨a0, q0, rfl⟩ := ownsRow_form hst0.own
  have ht2 := hst0.turns
  have hs3 : w.heap.size + 2 ≤ w2.heap.size := by have := ht2.size; omega
  have hb2 : Boxed w2 w.heap.size 59 (.pointer (some ⟨R, 0, none⟩)) := (ht2.block _ hb1.lt hneN).trans hb1
  have hx2 := (ht2.block (w.heap.size + 1) (by omega) (by omega)).trans hx1
  have T2 := (T1.out.trans ht2)
  have O0 := (ownsRow_base hst0.own (b' := w.heap.size + 2) (by omega))
  have hd2 := hst0.rd
  rw [flat_end, List.nil_append] at hd2
  have ST2 := Lib.hid (show _ ∧ _ ∧ _ from ⟨T2, O0, hd2⟩)
  clear hc1 hb1 hx1 hd1' T1 ht2 hst0 T2 O0 hd2 hs1
  have hf2 := unfrozen hx2
  obtain ⟨n0, n1, n2⟩ := cells3 hx2
  have hbN : w.heap.size ≠ w.heap.size + 1 := by omega
  have hc2 := hb2.cell
  go_wp2_with fail
  have o3 : ∀ k, k ≠ w.heap.size + 1 → (w2.setCell ⟨w.heap.size + 1, 0, none⟩ (.slice a0 I.np q0)).heap[k]? = w2.heap[k]? := fun k h => set1_other _ _ k h 0 _
  have hb3 : Boxed (w2.setCell ⟨w.heap.size + 1, 0, none⟩ (.slice a0 I.np q0)) w.heap.size 59 (.pointer (some ⟨R, 0, none⟩)) := (o3 _ hbN).trans hb2
  have hx3 : (w2.setCell ⟨w.heap.size + 1, 0, none⟩ (.slice a0 I.np q0)).heap[w.heap.size + 1]? = some (.cells #[.slice a0 I.np q0, .slice none 0 0, .slice none 0 0] 27 (0, 0)) := by rw [setCell_heap hx2]; rfl
  have hs4 : w.heap.size + 2 ≤ (w2.setCell ⟨w.heap.size + 1, 0, none⟩ (.slice a0 I.np q0)).heap.size := by simpa [World.setCell] using hs3
  have T3 : Turns (fun b => b = R ∨ b = w.heap.size + 1) w (w2.setCell ⟨w.heap.size + 1, 0, none⟩ (.slice a0 I.np q0)) := (ST2.out.1.mono (fun _ _ h => .inl h)).setCell (b := w.heap.size + 1) (.inr rfl) 0 _
  have t3 : Turns (fun b => b = w.heap.size + 1) w2 (w2.setCell ⟨w.heap.size + 1, 0, none⟩ (.slice a0 I.np q0)) := (Turns.refl (fun b => b = w.heap.size + 1) w2).setCell (b := w.heap.size + 1) rfl 0 _
  have O3 := ownsRow_turned ST2.out.2.1 t3 (fun k hk e => by omega)
  have hd3 := ST2.out.2.2.same (o3 R (by omega)) (o3 S (by omega))
  have ST3 := Lib.hid (show _ ∧ _ ∧ _ from ⟨T3, O3, hd3⟩)
  clear n0 n1 n2 hf2 hc2 T3 t3 O3 hd3 o3 hx2 hb2 hs3 ST2
  generalize w2.setCell ⟨w.heap.size + 1, 0, none⟩ (.slice a0 I.np q0) = w3 at hb3 hx3 hs4 ST3 ⊢
  refine (rows33 R S w.heap.size I.nm k1 I.kd I.mx I.sf (dumpBs I.kd I.mx I.sf) _ w3 (by omega) (by omega) ST3.out.2.2 (HM'.out w.heap.size hneN w3 (by omega) (by omega) hb3)).mono ?_
  rintro e w4 ⟨v1, Zm, cm, rfl, hst1⟩
  obtain ⟨a1, q1, rfl⟩ := ownsRow_form hst1.own
  have ht4 := hst1.turns
  have hs5 : w.heap.size + 2 ≤ w4.heap.size := by have := ht4.size; omega
  have hb4 : Boxed w4 w.heap.size 59 (.pointer (some ⟨R, 0, none⟩)) := (ht4.block _ hb3.lt hneN).trans hb3
  have hx4 := (ht4.block (w.heap.size + 1) (by omega) (by omega)).trans hx3
  have T4 := (ST3.out.1.trans (ht4.mono (fun _ _ h => .inl h)))
  have P0 := ownsRow_turned ST3.out.2.1 ht4 (fun k hk e => by omega)
  have P1 := (ownsRow_base hst1.own (b' := w.heap.size + 2) (by omega))
  have hda : ∀ j, j < I.nm → DataAt (I.sf j) (Zm j) (cm j) w4 ∧ (0 < (I.sf j).size → w.heap.size + 2 ≤ Zm j) := fun j hj => ⟨(hst1.data j hj).1, fun h => by have := ((hst1.data j hj).2 h).1; omega⟩
  have hd4 := hst1.rd
  rw [flat_end, List.nil_append] at hd4
  have ST4 := Lib.hid (show _ ∧ _ ∧ _ ∧ _ ∧ _ from ⟨T4, P0, P1, hda, hd4⟩)
  clear hb3 hx3 ht4 hst1 T4 P0 P1 hda hd4 hs4 ST3
  have hf4 := unfrozen hx4
  obtain ⟨n0, n1, n2⟩ := cells3 hx4
  have hc4 := hb4.cell
  go_wp2_with fail
  have o5 : ∀ k, k ≠ w.heap.size + 1 → (w4.setCell ⟨w.heap.size + 1, 1, none⟩ (.slice a1 I.nm q1)).heap[k]? = w4.heap[k]? := fun k h => set1_other _ _ k h 1 _
  have hb5 : Boxed (w4.setCell ⟨w.heap.size + 1, 1, none⟩ (.slice a1 I.nm q1)) w.heap.size 59 (.pointer (some ⟨R, 0, none⟩)) := (o5 _ hbN).trans hb4
  have hx5 : (w4.setCell ⟨w.heap.size + 1, 1, none⟩ (.slice a1 I.nm q1)).heap[w.heap.size + 1]? = some (.cells #[.slice a0 I.np q0, .slice a1 I.nm q1, .slice none 0 0] 27 (0, 0)) := by rw [setCell_heap hx4]; rfl
  have hs6 : w.heap.size + 2 ≤ (w4.setCell ⟨w.heap.size + 1, 1, none⟩ (.slice a1 I.nm q1)).heap.size := by simpa [World.setCell] using hs5
  have t5 : Turns (fun b => b = w.heap.size + 1) w4 (w4.setCell ⟨w.heap.size + 1, 1, none⟩ (.slice a1 I.nm q1)) := (Turns.refl (fun b => b = w.heap.size + 1) w4).setCell (b := w.heap.size + 1) rfl 1 (.slice a1 I.nm q1)
  have T5 : Turns (fun b => b = R ∨ b = w.heap.size + 1) w (w4.setCell ⟨w.heap.size + 1, 1, none⟩ (.slice a1 I.nm q1)) := ST4.out.1.setCell (b := w.heap.size + 1) (.inr rfl) 1 _
  have P0 := ownsRow_turned ST4.out.2.1 t5 (fun k hk e => by omega)
  have P1 := ownsRow_turned ST4.out.2.2.1 t5 (fun k hk e => by omega)
  have hda : ∀ j, j < I.nm → DataAt (I.sf j) (Zm j) (cm j) (w4.setCell ⟨w.heap.size + 1, 1, none⟩ (.slice a1 I.nm q1)) ∧ (0 < (I.sf j).size → w.heap.size + 2 ≤ Zm j) := fun j hj => ⟨(ST4.out.2.2.2.1 j hj).1.same fun h => o5 _ (by have := (ST4.out.2.2.2.1 j hj).2 h; omega), (ST4.out.2.2.2.1 j hj).2⟩
  have hd5 := ST4.out.2.2.2.2.same (o5 R (by omega)) (o5 S (by omega))
  have ST5 := Lib.hid (show _ ∧ _ ∧ _ ∧ _ ∧ _ from ⟨T5, P0, P1, hda, hd5⟩)
  clear n0 n1 n2 hf4 hc4 T5 t5 P0 P1 hda hd5 o5 hx4 hb4 hs5 ST4
  generalize w4.setCell ⟨w.heap.size + 1, 1, none⟩ (.slice a1 I.nm q1) = w5 at hb5 hx5 hs6 ST5 ⊢
  refine (rows35 R S w.heap.size I.nl k2 I.ver (fun _ => Emp) (linkBs I.ver) _ w5 (by omega) (by omega) ST5.out.2.2.2.2 (HL'.out w.heap.size hneN w5 (by omega) (by omega) hb5)).mono ?_
  rintro e w6 ⟨v2, Zl, cl, rfl, hst2⟩
  obtain ⟨a2, q2, rfl⟩ := ownsRow_form hst2.own
  have ht6 := hst2.turns
  have hs7 : w.heap.size + 2 ≤ w6.heap.size := by have := ht6.size; omega
  have hx6 := (ht6.block (w.heap.size + 1) (by omega) (by omega)).trans hx5
  have T6 := (ST5.out.1.trans (ht6.mono (fun _ _ h => .inl h)))
  have P0 := ownsRow_turned ST5.out.2.1 ht6 (fun k hk e => by omega)
  have P1 := ownsRow_turned ST5.out.2.2.1 ht6 (fun k hk e => by omega)
  have P2 := (ownsRow_base hst2.own (b' := w.heap.size + 2) (by omega))
  have hda : ∀ j, j < I.nm → DataAt (I.sf j) (Zm j) (cm j) w6 ∧ (0 < (I.sf j).size → w.heap.size + 2 ≤ Zm j) := fun j hj => ⟨(ST5.out.2.2.2.1 j hj).1.same fun h => ht6.block _ ((ST5.out.2.2.2.1 j hj).1.lt h) (by have := (ST5.out.2.2.2.1 j hj).2 h; omega), (ST5.out.2.2.2.1 j hj).2⟩
  have hd6 := hst2.rd
  rw [flat_end, List.nil_append] at hd6
  have ST6 := Lib.hid (show _ ∧ _ ∧ _ ∧ _ ∧ _ ∧ _ from ⟨T6, P0, P1, P2, hda, hd6⟩)
  clear hb5 hx5 ht6 hst2 T6 P0 P1 P2 hda hd6 hs6 ST5
  have hf6 := unfrozen hx6
  obtain ⟨n0, n1, n2⟩ := cells3 hx6
  go_wp2_with fail
  have t7 : Turns (fun b => b = w.heap.size + 1) w6 ((((w6.setCell ⟨w.heap.size + 1, 2, none⟩ (.slice a2 I.nl q2)).setCell ⟨w.heap.size + 1, 0, none⟩ (.slice a0 I.np q0)).setCell ⟨w.heap.size + 1, 1, none⟩ (.slice a1 I.nm q1)).setCell ⟨w.heap.size + 1, 2, none⟩ (.slice a2 I.nl q2)) :=
    ((((Turns.refl (fun b => b = w.heap.size + 1) w6).setCell (b := w.heap.size + 1) rfl 2 _).setCell (b := w.heap.size + 1) rfl 0 _).setCell (b := w.heap.size + 1) rfl 1 _).setCell (b := w.heap.size + 1) rfl 2 _
  have hrow : ((((w6.setCell ⟨w.heap.size + 1, 2, none⟩ (.slice a2 I.nl q2)).setCell ⟨w.heap.size + 1, 0, none⟩ (.slice a0 I.np q0)).setCell ⟨w.heap.size + 1, 1, none⟩ (.slice a1 I.nm q1)).setCell ⟨w.heap.size + 1, 2, none⟩ (.slice a2 I.nl q2)).heap[w.heap.size + 1]? = some (.cells #[.slice a0 I.np q0, .slice a1 I.nm q1, .slice a2 I.nl q2] 27 (0, 0)) := by
    rw [setCell_heap (setCell_heap (setCell_heap (setCell_heap hx6 2 _) 0 _) 1 _) 2 _]; rfl
  have o7 := fun k h => t7.block k h
  clear n0 n1 n2 hf6 hx6
  generalize (((w6.setCell ⟨w.heap.size + 1, 2, none⟩ (.slice a2 I.nl q2)).setCell ⟨w.heap.size + 1, 0, none⟩ (.slice a0 I.np q0)).setCell ⟨w.heap.size + 1, 1, none⟩ (.slice a1 I.nm q1)).setCell ⟨w.heap.size + 1, 2, none⟩ (.slice a2 I.nl q2) = w7 at t7 hrow o7 ⊢
  refine bodyPost_ret (results_cell_row rfl _ _ (w.heap.size + 1) 27 #[.slice a0 I.np q0, .slice a1 I.nm q1, .slice a2 I.nl q2] (0, 0) _ rfl hrow Tryz.underlying27 rfl (by kernel_rfl)) rfl ?_
  obtain ⟨T6, P0, P1, P2, hda, hd6⟩ := ST6.out
  refine ⟨a0, q0, a1, q1, a2, q2, Zp, cp, Zm, cm, Zl, cl, rfl, ⟨ownsRow_base (ownsRow_turned P0 t7 (fun k hk e => by omega)) (by omega), ownsRow_base (ownsRow_turned P1 t7 (fun k hk e => by omega)) (by omega), ownsRow_base (ownsRow_turned P2 t7 (fun k hk e => by omega)) (by omega), fun j hj => ⟨(hda j hj).1.same fun h => o7 _ ((hda j hj).1.lt h) (by have := (hda j hj).2 h; omega), fun h => by have := (hda j hj).2 h; omega⟩⟩, hd6.same (o7 R (by omega) (by omega)) (o7 S (by omega) (by omega)), ?_⟩
  exact (T6.trans (t7.mono (fun _ _ h => .inr h))).mono (fun k hk h => by rcases h with h | h; exact h; omega)
end Go.Proofs.YtfhjffkcobmkaaaGreat
