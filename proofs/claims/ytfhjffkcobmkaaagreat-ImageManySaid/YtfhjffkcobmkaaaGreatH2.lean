/- Decode of an image bytes, and with more behind. -/
import Derived.WalkKit
import Derived.Lib.Hide
import Derived.WalkLawsBesides
import Derived.WalkSpells
import Derived.BigQuiet
import Derived.Deep.QuietTactic
import Derived.Handy
import Derived.RangeFuncBox
import Derived.Shelf.Abstract
import Derived.Deep.RegionWith
import Derived.Deep.RegionHeld3
import Derived.StillTailTactics
import Derived.Lib.AppendStr
import Derived.RangeFuncNested
import Derived.RangeFuncBound
import Derived.RangeFuncCalls
import Derived.RangeFuncLeaves
import Derived.Shelf.AbstractIn
import Derived.Shelf.RegionOpen
import Derived.OwnWalkIn
import Derived.TacticsInMore
import Derived.LoopNIn
import Derived.LoopIn
import Derived.LaidEqlPtr
import Derived.Lib.Builder
import Derived.Lib.ConvBytes
import Derived.Maps.AppendAt
import Derived.Deep.DeepCutAuto
import Derived.Defers
import Derived.Recover
import Derived.Test.YtfhjffkcobmkaaaGreatH1
set_option linter.unusedVariables false
set_option linter.unusedSimpArgs false
namespace Go.Proofs.YtfhjffkcobmkaaaGreat
open Go.RowKit
theorem ReadAt.turned {S : Nat → Prop} {I : Im} {base : Nat} {v0 v1 v2 : Value} {Zp cp Zm cm Zl cl : Nat → Nat} {W W' : World} (h : ReadAt I base v0 v1 v2 Zp cp Zm cm Zl cl W) (ht : Turns S W W') (hS : ∀ k, base ≤ k → ¬ S k) : ReadAt I base v0 v1 v2 Zp cp Zm cm Zl cl W' :=
  ⟨ownsRow_turned h.o0 ht hS, ownsRow_turned h.o1 ht hS, ownsRow_turned h.o2 ht hS, fun j hj => ⟨(h.data j hj).1.same fun h0 => ht.block _ ((h.data j hj).1.lt h0) (hS _ ((h.data j hj).2 h0)), (h.data j hj).2⟩⟩
theorem ReadAt.base {I : Im} {b b' : Nat} {v0 v1 v2 : Value} {Zp cp Zm cm Zl cl : Nat → Nat} {W : World} (h : ReadAt I b v0 v1 v2 Zp cp Zm cm Zl cl W) (hb : b' ≤ b) : ReadAt I b' v0 v1 v2 Zp cp Zm cm Zl cl W :=
  ⟨ownsRow_base h.o0 hb, ownsRow_base h.o1 hb, ownsRow_base h.o2 hb, fun j hj => ⟨(h.data j hj).1, fun h0 => by have := (h.data j hj).2 h0; omega⟩⟩
set_option maxHeartbeats 1000000 in
set_option maxRecDepth 100000 in
theorem decode7 (I : Im) (hI : I.Ok) (hg : I.Good) (S o cap : Nat) (w : World) (h1 : (I.bs ++ []).length ≤ cap) (h2 : cap ≤ maxLen) (hS : S < w.heap.size) (hc : ∀ j u, ((I.bs ++ []).map u8)[j]? = some u → w.cell? ⟨S, o + j, none⟩ = some u) :
    Calls Tryz.prog 7 #[.slice (some ⟨S, o, none⟩) (I.bs ++ []).length cap] w fun e w' => ∃ a0 q0 a1 q1 a2 q2 Zp cp Zm cm Zl cl, e = .returned (.tuple #[.agg #[.slice a0 I.np q0, .slice a1 I.nm q1, .slice a2 I.nl q2], .int .i64 0]) ∧ ReadAt I w.heap.size (.slice a0 I.np q0) (.slice a1 I.nm q1) (.slice a2 I.nl q2) Zp cp Zm cm Zl cl w' ∧ Below w.heap.size w w' := by
  have hmf : ∀ (fn : Fn) (first cap : Array Value) (w : World), (Instr.makeFunc fn first cap).run Tryz.prog w = .ok (.func fn first cap) w := fun _ _ _ _ => rfl
  have hi := Lib.hid hI
  have i0 := hI.np
  have i1 := hI.nm
  have i2 := hI.nl
  generalize hbs : I.bs ++ [] = bs at h1 hc ⊢
  have hbs' := Lib.hid hbs
  have hc' := Lib.hid hc
  clear hc hI hbs
  go_enter_defers Tryz.func7, Tryz.ntmps7
  go_wp2_with fail
  have hba : Below w.heap.size w (((w.alloc (.cells #[.slice none 0 0, .slice none 0 0, .slice none 0 0] 27)).alloc (.cells #[.int .i64 0] 38)).alloc (.cells #[.slice (some ⟨S, o, none⟩) bs.length cap] 60)) := (((Below.refl _ _).alloc (Nat.le_refl _) _).alloc (by simp) _).alloc (by simp; omega) _
  have hsa : (((w.alloc (.cells #[.slice none 0 0, .slice none 0 0, .slice none 0 0] 27)).alloc (.cells #[.int .i64 0] 38)).alloc (.cells #[.slice (some ⟨S, o, none⟩) bs.length cap] 60)).heap.size = w.heap.size + 3 := by simp
  have hx0 : (((w.alloc (.cells #[.slice none 0 0, .slice none 0 0, .slice none 0 0] 27)).alloc (.cells #[.int .i64 0] 38)).alloc (.cells #[.slice (some ⟨S, o, none⟩) bs.length cap] 60)).heap[w.heap.size]? = some (.cells #[.slice none 0 0, .slice none 0 0, .slice none 0 0] 27 (0, 0)) := (heap_old _ _ _ (by simp; omega)).trans ((heap_old _ _ _ (by simp)).trans (heap_new _ _ _ rfl))
  have hy0 : Boxed (((w.alloc (.cells #[.slice none 0 0, .slice none 0 0, .slice none 0 0] 27)).alloc (.cells #[.int .i64 0] 38)).alloc (.cells #[.slice (some ⟨S, o, none⟩) bs.length cap] 60)) (w.heap.size + 1) 38 (.int .i64 0) := (heap_old _ _ _ (by simp)).trans (heap_new _ _ _ (by simp))
  have hr0 : (((w.alloc (.cells #[.slice none 0 0, .slice none 0 0, .slice none 0 0] 27)).alloc (.cells #[.int .i64 0] 38)).alloc (.cells #[.slice (some ⟨S, o, none⟩) bs.length cap] 60)).heap[w.heap.size + 1 + 1]? = some (.cells #[.slice (some ⟨S, o, none⟩) bs.length cap] 60 (0, 0)) := heap_new _ _ _ (by simp)
  generalize ((w.alloc (.cells #[.slice none 0 0, .slice none 0 0, .slice none 0 0] 27)).alloc (.cells #[.int .i64 0] 38)).alloc (.cells #[.slice (some ⟨S, o, none⟩) bs.length cap] 60) = wa at hba hsa hx0 hy0 hr0 ⊢
  have hrd : Rd wa (w.heap.size + 1 + 1) S bs := ⟨o, cap, hr0, h1, h2, by omega, fun j u hj => keepc hba (hc'.out j u hj)⟩
  rw [← hbs'.out] at hrd
  have HS := Lib.hid hsa
  have hba' := Lib.hid hba
  have hrd' := Lib.hid hrd
  have hSa : S < wa.heap.size := by omega
  have hRa : w.heap.size + 1 + 1 < wa.heap.size := by omega
  clear hsa hba hrd hr0
  refine (image17 I hi.out (w.heap.size + 1 + 1) S [] wa hRa hSa hrd'.out).mono ?_
  rintro e w2 ⟨a0, q0, a1, q1, a2, q2, Zp, cp, Zm, cm, Zl, cl, rfl, hra, hrd2, ht2⟩
  have hx2 := (ht2.block w.heap.size (by omega) (by omega)).trans hx0
  have hy2 : Boxed w2 (w.heap.size + 1) 38 (.int .i64 0) := (ht2.block _ (by omega) (by omega)).trans hy0
  have hb2 := Lib.hid (hba'.out.trans ⟨ht2.os, ht2.tape, ht2.output, ht2.size, fun k hk => ht2.block k (by have := HS.out; omega) (by omega)⟩)
  have hz2 : w.heap.size + 3 ≤ w2.heap.size := by have := ht2.size; have := HS.out; omega
  have hra' := Lib.hid hra
  have hrd2' := Lib.hid hrd2
  clear hx0 hy0 hra hrd2 ht2 hba' hrd'
  obtain ⟨n0, n1, n2⟩ := cells3 hx2
  have hf2 := unfrozen hx2
  obtain ⟨off3, cap3, ⟨hR2, -, -, -, -⟩⟩ := hrd2'.out
  have hcR : w2.cell? ⟨w.heap.size + 1 + 1, 0, none⟩ = some (.slice (some ⟨S, off3, none⟩) ([] : List UInt8).length cap3) := by simp [World.cell?, hR2]
  have hcE := hy2.cell
  have hfE := hy2.frozen
  have hX2 := Lib.hid hx2
  have hY2 := Lib.hid hy2
  clear hx2 hy2 hR2
  go_wp2_with fail
  have hX3 : (((w2.setCell ⟨w.heap.size, 0, none⟩ (.slice a0 I.np q0)).setCell ⟨w.heap.size, 1, none⟩ (.slice a1 I.nm q1)).setCell ⟨w.heap.size, 2, none⟩ (.slice a2 I.nl q2)).heap[w.heap.size]? = some (.cells #[.slice a0 I.np q0, .slice a1 I.nm q1, .slice a2 I.nl q2] 27 (0, 0)) := set3_row w2 w.heap.size 27 _ _ _ _ _ _ hX2.out
  have hY3 : Boxed (((w2.setCell ⟨w.heap.size, 0, none⟩ (.slice a0 I.np q0)).setCell ⟨w.heap.size, 1, none⟩ (.slice a1 I.nm q1)).setCell ⟨w.heap.size, 2, none⟩ (.slice a2 I.nl q2)) (w.heap.size + 1) 38 (.int .i64 0) := (set3_heap w2 w.heap.size (w.heap.size + 1) (by omega) _ _ _).trans hY2.out
  have hb3 : Below w.heap.size w (((w2.setCell ⟨w.heap.size, 0, none⟩ (.slice a0 I.np q0)).setCell ⟨w.heap.size, 1, none⟩ (.slice a1 I.nm q1)).setCell ⟨w.heap.size, 2, none⟩ (.slice a2 I.nl q2)) := ((hb2.out.setCell (p := ⟨w.heap.size, 0, none⟩) (Nat.le_refl _) _).setCell (p := ⟨w.heap.size, 1, none⟩) (Nat.le_refl _) _).setCell (p := ⟨w.heap.size, 2, none⟩) (Nat.le_refl _) _
  have ht3 : Turns (fun b => b = w.heap.size) w2 (((w2.setCell ⟨w.heap.size, 0, none⟩ (.slice a0 I.np q0)).setCell ⟨w.heap.size, 1, none⟩ (.slice a1 I.nm q1)).setCell ⟨w.heap.size, 2, none⟩ (.slice a2 I.nl q2)) := (((Turns.refl (fun b => b = w.heap.size) w2).setCell (b := w.heap.size) rfl 0 _).setCell (b := w.heap.size) rfl 1 _).setCell (b := w.heap.size) rfl 2 _
  have hz3 : w.heap.size + 3 ≤ (((w2.setCell ⟨w.heap.size, 0, none⟩ (.slice a0 I.np q0)).setCell ⟨w.heap.size, 1, none⟩ (.slice a1 I.nm q1)).setCell ⟨w.heap.size, 2, none⟩ (.slice a2 I.nl q2)).heap.size := by have := ht3.size; omega
  have hra3 := hra'.out.turned ht3 (fun k hk e => by omega)
  clear n0 n1 n2 hf2 hcR hcE hfE ht3 hX2 hY2 hb2 hra' hrd2'
  generalize ((w2.setCell ⟨w.heap.size, 0, none⟩ (.slice a0 I.np q0)).setCell ⟨w.heap.size, 1, none⟩ (.slice a1 I.nm q1)).setCell ⟨w.heap.size, 2, none⟩ (.slice a2 I.nl q2) = w3 at hX3 hY3 hb3 hra3 hz3 ⊢
  have hF := fine_of I (fun j => .slice (some ⟨Zp j, 0, none⟩) 0 (cp j)) (fun j => .slice (some ⟨Zm j, 0, none⟩) (I.sf j).size (cm j)) w3 hg hi.out.ctx hi.out.ver (fun j _ => ⟨_, _, rfl⟩) (fun j hj => DV.of_data (hra3.data j hj).1)
  have hyes : (decide (((I.desc (fun j => .slice (some ⟨Zp j, 0, none⟩) 0 (cp j)) (fun j => .slice (some ⟨Zm j, 0, none⟩) (I.sf j).size (cm j))).np : Int) ≤ 64) && decide (((I.desc (fun j => .slice (some ⟨Zp j, 0, none⟩) 0 (cp j)) (fun j => .slice (some ⟨Zm j, 0, none⟩) (I.sf j).size (cm j))).nm : Int) ≤ 64) && decide (((I.desc (fun j => .slice (some ⟨Zp j, 0, none⟩) 0 (cp j)) (fun j => .slice (some ⟨Zm j, 0, none⟩) (I.sf j).size (cm j))).nl : Int) ≤ 64)) = true := by
    show (decide ((I.np : Int) ≤ 64) && decide ((I.nm : Int) ≤ 64) && decide ((I.nl : Int) ≤ 64)) = true
    rw [decide_eq_true (show (I.np : Int) ≤ 64 by omega), decide_eq_true (show (I.nm : Int) ≤ 64 by omega), decide_eq_true (show (I.nl : Int) ≤ 64 by omega)]; rfl
  refine (right6 (I.desc (fun j => .slice (some ⟨Zp j, 0, none⟩) 0 (cp j)) (fun j => .slice (some ⟨Zm j, 0, none⟩) (I.sf j).size (cm j))) (blk a0) (blk a1) (blk a2) q0 q1 q2 a0 a1 a2 w3 hra3.img hF (row_head hra3.o0) (row_head hra3.o1) (row_head hra3.o2) (by show I.np ≤ 1000; omega) (by show I.nm ≤ 1000; omega) (by show I.nl ≤ 1000; omega)).mono ?_
  rintro e w4 ⟨rfl, hb4⟩
  rw [hyes]
  have hX4 := (hb4.block _ (by omega)).trans hX3
  have hY4 : Boxed w4 (w.heap.size + 1) 38 _ := (hb4.block _ (by omega)).trans hY3
  have hra4 := hra3.turned (S := fun _ => False) (Turns.of_below hb4) (fun k hk e => e)
  have HB4 := Lib.hid (hb3.trans (hb4.mono hb3.size))
  have HX4 := Lib.hid hX4
  have HY4 := Lib.hid hY4
  have HR4 := Lib.hid hra4
  have hz4 : w.heap.size + 3 ≤ w4.heap.size := by have := hb4.size; omega
  obtain ⟨n0, n1, n2⟩ := cells3 hX4
  have hf4 := unfrozen hX4
  have hcE := hY4.cell
  have hfE := hY4.frozen
  clear hX3 hY3 hb3 hra3 hF hyes hb4 hX4 hY4 hra4
  go_wp2_with fail
  have hX5 : ((((w4.setCell ⟨w.heap.size, 0, none⟩ (.slice a0 I.np q0)).setCell ⟨w.heap.size, 1, none⟩ (.slice a1 I.nm q1)).setCell ⟨w.heap.size, 2, none⟩ (.slice a2 I.nl q2)).setCell ⟨w.heap.size + 1, 0, none⟩ (.int .i64 0)).heap[w.heap.size]? = some (.cells #[.slice a0 I.np q0, .slice a1 I.nm q1, .slice a2 I.nl q2] 27 (0, 0)) := (set1_other _ (w.heap.size + 1) w.heap.size (by omega) 0 _).trans (set3_row w4 w.heap.size 27 _ _ _ _ _ _ HX4.out)
  have hY5 : Boxed ((((w4.setCell ⟨w.heap.size, 0, none⟩ (.slice a0 I.np q0)).setCell ⟨w.heap.size, 1, none⟩ (.slice a1 I.nm q1)).setCell ⟨w.heap.size, 2, none⟩ (.slice a2 I.nl q2)).setCell ⟨w.heap.size + 1, 0, none⟩ (.int .i64 0)) (w.heap.size + 1) 38 (.int .i64 0) := Boxed.set _ (show Boxed _ _ 38 _ from (set3_heap w4 w.heap.size (w.heap.size + 1) (by omega) _ _ _).trans HY4.out)
  have ht5 : Turns (fun b => b = w.heap.size ∨ b = w.heap.size + 1) w4 ((((w4.setCell ⟨w.heap.size, 0, none⟩ (.slice a0 I.np q0)).setCell ⟨w.heap.size, 1, none⟩ (.slice a1 I.nm q1)).setCell ⟨w.heap.size, 2, none⟩ (.slice a2 I.nl q2)).setCell ⟨w.heap.size + 1, 0, none⟩ (.int .i64 0)) := ((((Turns.refl (fun b => b = w.heap.size ∨ b = w.heap.size + 1) w4).setCell (b := w.heap.size) (.inl rfl) 0 _).setCell (b := w.heap.size) (.inl rfl) 1 _).setCell (b := w.heap.size) (.inl rfl) 2 _).setCell (b := w.heap.size + 1) (.inr rfl) 0 _
  have hra5 := (HR4.out.turned ht5 (fun k hk e => by rcases e with e | e <;> omega)).base (b' := w.heap.size) (by omega)
  have hb5 : Below w.heap.size w ((((w4.setCell ⟨w.heap.size, 0, none⟩ (.slice a0 I.np q0)).setCell ⟨w.heap.size, 1, none⟩ (.slice a1 I.nm q1)).setCell ⟨w.heap.size, 2, none⟩ (.slice a2 I.nl q2)).setCell ⟨w.heap.size + 1, 0, none⟩ (.int .i64 0)) := HB4.out.trans ⟨ht5.os, ht5.tape, ht5.output, ht5.size, fun k hk => ht5.block k (by omega) (by omega)⟩
  generalize (((w4.setCell ⟨w.heap.size, 0, none⟩ (.slice a0 I.np q0)).setCell ⟨w.heap.size, 1, none⟩ (.slice a1 I.nm q1)).setCell ⟨w.heap.size, 2, none⟩ (.slice a2 I.nl q2)).setCell ⟨w.heap.size + 1, 0, none⟩ (.int .i64 0) = w5 at hX5 hY5 ht5 hra5 hb5 ⊢
  refine leaves_cons (f := 16) (args := #[.pointer (some ⟨w.heap.size, 0, none⟩), .pointer (some ⟨w.heap.size + 1, 0, none⟩)]) (by simp) (by simp [go_sem]) ?_
  refine (catch16idle ⟨w.heap.size, 0, none⟩ ⟨w.heap.size + 1, 0, none⟩ w5).mono ?_
  rintro e u' w6 ⟨rfl, rfl, rfl⟩
  simp only [Leaves, settle]
  refine ⟨_, results_cells2 rfl _ _ ⟨w.heap.size, 0, none⟩ ⟨w.heap.size + 1, 0, none⟩ _ _ rfl rfl (run_loadVar_row _ w.heap.size 27 27 _ (0, 0) _ hX5 Tryz.underlying27 rfl (by kernel_rfl)) (load38 _ _ _ hY5), a0, q0, a1, q1, a2, q2, Zp, cp, Zm, cm, Zl, cl, rfl, hra5, hb5⟩
set_option maxHeartbeats 1000000 in
set_option maxRecDepth 100000 in
theorem decode7more (I : Im) (hI : I.Ok) (hg : I.Good) (b : UInt8) (ys : List UInt8) (S o cap : Nat) (w : World) (h1 : (I.bs ++ (b :: ys)).length ≤ cap) (h2 : cap ≤ maxLen) (hS : S < w.heap.size) (hc : ∀ j u, ((I.bs ++ (b :: ys)).map u8)[j]? = some u → w.cell? ⟨S, o + j, none⟩ = some u) :
    Calls Tryz.prog 7 #[.slice (some ⟨S, o, none⟩) (I.bs ++ (b :: ys)).length cap] w fun e w' => e = .returned (.tuple #[.agg #[.slice none 0 0, .slice none 0 0, .slice none 0 0], .int .i64 2]) ∧ Below w.heap.size w w' := by
  have hmf : ∀ (fn : Fn) (first cap : Array Value) (w : World), (Instr.makeFunc fn first cap).run Tryz.prog w = .ok (.func fn first cap) w := fun _ _ _ _ => rfl
  have hi := Lib.hid hI
  have i0 := hI.np
  have i1 := hI.nm
  have i2 := hI.nl
  generalize hbs : I.bs ++ (b :: ys) = bs at h1 hc ⊢
  have hbs' := Lib.hid hbs
  have hc' := Lib.hid hc
  clear hc hI hbs
  go_enter_defers Tryz.func7, Tryz.ntmps7
  go_wp2_with fail
  have hba : Below w.heap.size w (((w.alloc (.cells #[.slice none 0 0, .slice none 0 0, .slice none 0 0] 27)).alloc (.cells #[.int .i64 0] 38)).alloc (.cells #[.slice (some ⟨S, o, none⟩) bs.length cap] 60)) := (((Below.refl _ _).alloc (Nat.le_refl _) _).alloc (by simp) _).alloc (by simp; omega) _
  have hsa : (((w.alloc (.cells #[.slice none 0 0, .slice none 0 0, .slice none 0 0] 27)).alloc (.cells #[.int .i64 0] 38)).alloc (.cells #[.slice (some ⟨S, o, none⟩) bs.length cap] 60)).heap.size = w.heap.size + 3 := by simp
  have hx0 : (((w.alloc (.cells #[.slice none 0 0, .slice none 0 0, .slice none 0 0] 27)).alloc (.cells #[.int .i64 0] 38)).alloc (.cells #[.slice (some ⟨S, o, none⟩) bs.length cap] 60)).heap[w.heap.size]? = some (.cells #[.slice none 0 0, .slice none 0 0, .slice none 0 0] 27 (0, 0)) := (heap_old _ _ _ (by simp; omega)).trans ((heap_old _ _ _ (by simp)).trans (heap_new _ _ _ rfl))
  have hy0 : Boxed (((w.alloc (.cells #[.slice none 0 0, .slice none 0 0, .slice none 0 0] 27)).alloc (.cells #[.int .i64 0] 38)).alloc (.cells #[.slice (some ⟨S, o, none⟩) bs.length cap] 60)) (w.heap.size + 1) 38 (.int .i64 0) := (heap_old _ _ _ (by simp)).trans (heap_new _ _ _ (by simp))
  have hr0 : (((w.alloc (.cells #[.slice none 0 0, .slice none 0 0, .slice none 0 0] 27)).alloc (.cells #[.int .i64 0] 38)).alloc (.cells #[.slice (some ⟨S, o, none⟩) bs.length cap] 60)).heap[w.heap.size + 1 + 1]? = some (.cells #[.slice (some ⟨S, o, none⟩) bs.length cap] 60 (0, 0)) := heap_new _ _ _ (by simp)
  generalize ((w.alloc (.cells #[.slice none 0 0, .slice none 0 0, .slice none 0 0] 27)).alloc (.cells #[.int .i64 0] 38)).alloc (.cells #[.slice (some ⟨S, o, none⟩) bs.length cap] 60) = wa at hba hsa hx0 hy0 hr0 ⊢
  have hrd : Rd wa (w.heap.size + 1 + 1) S bs := ⟨o, cap, hr0, h1, h2, by omega, fun j u hj => keepc hba (hc'.out j u hj)⟩
  rw [← hbs'.out] at hrd
  have HS := Lib.hid hsa
  have hba' := Lib.hid hba
  have hrd' := Lib.hid hrd
  have hSa : S < wa.heap.size := by omega
  have hRa : w.heap.size + 1 + 1 < wa.heap.size := by omega
  clear hsa hba hrd hr0
  refine (image17 I hi.out (w.heap.size + 1 + 1) S (b :: ys) wa hRa hSa hrd'.out).mono ?_
  rintro e w2 ⟨a0, q0, a1, q1, a2, q2, Zp, cp, Zm, cm, Zl, cl, rfl, hra, hrd2, ht2⟩
  have hx2 := (ht2.block w.heap.size (by omega) (by omega)).trans hx0
  have hy2 : Boxed w2 (w.heap.size + 1) 38 (.int .i64 0) := (ht2.block _ (by omega) (by omega)).trans hy0
  have hb2 := Lib.hid (hba'.out.trans ⟨ht2.os, ht2.tape, ht2.output, ht2.size, fun k hk => ht2.block k (by have := HS.out; omega) (by omega)⟩)
  have hz2 : w.heap.size + 3 ≤ w2.heap.size := by have := ht2.size; have := HS.out; omega
  have hra' := Lib.hid hra
  have hrd2' := Lib.hid hrd2
  clear hx0 hy0 hra hrd2 ht2 hba' hrd'
  obtain ⟨n0, n1, n2⟩ := cells3 hx2
  have hf2 := unfrozen hx2
  obtain ⟨off3, cap3, ⟨hR2, -, -, -, -⟩⟩ := hrd2'.out
  have hcR : w2.cell? ⟨w.heap.size + 1 + 1, 0, none⟩ = some (.slice (some ⟨S, off3, none⟩) ((b :: ys) : List UInt8).length cap3) := by simp [World.cell?, hR2]
  have hcE := hy2.cell
  have hfE := hy2.frozen
  have hX2 := Lib.hid hx2
  have hY2 := Lib.hid hy2
  clear hx2 hy2 hR2
  have hlen : decide ((0 : Int) < ((b :: ys).length : Nat)) = true := by simp
  have hlen2 : (0 : Int) < ((b :: ys).length : Nat) := by simp
  generalize (b :: ys).length = ny at hcR hlen hlen2
  go_wp2_with fail
  have hX3 : (((w2.setCell ⟨w.heap.size, 0, none⟩ (.slice a0 I.np q0)).setCell ⟨w.heap.size, 1, none⟩ (.slice a1 I.nm q1)).setCell ⟨w.heap.size, 2, none⟩ (.slice a2 I.nl q2)).heap[w.heap.size]? = some (.cells #[.slice a0 I.np q0, .slice a1 I.nm q1, .slice a2 I.nl q2] 27 (0, 0)) := set3_row w2 w.heap.size 27 _ _ _ _ _ _ hX2.out
  have hY3 : Boxed (((w2.setCell ⟨w.heap.size, 0, none⟩ (.slice a0 I.np q0)).setCell ⟨w.heap.size, 1, none⟩ (.slice a1 I.nm q1)).setCell ⟨w.heap.size, 2, none⟩ (.slice a2 I.nl q2)) (w.heap.size + 1) 38 (.int .i64 0) := (set3_heap w2 w.heap.size (w.heap.size + 1) (by omega) _ _ _).trans hY2.out
  have hb3 : Below w.heap.size w (((w2.setCell ⟨w.heap.size, 0, none⟩ (.slice a0 I.np q0)).setCell ⟨w.heap.size, 1, none⟩ (.slice a1 I.nm q1)).setCell ⟨w.heap.size, 2, none⟩ (.slice a2 I.nl q2)) := ((hb2.out.setCell (p := ⟨w.heap.size, 0, none⟩) (Nat.le_refl _) _).setCell (p := ⟨w.heap.size, 1, none⟩) (Nat.le_refl _) _).setCell (p := ⟨w.heap.size, 2, none⟩) (Nat.le_refl _) _
  generalize ((w2.setCell ⟨w.heap.size, 0, none⟩ (.slice a0 I.np q0)).setCell ⟨w.heap.size, 1, none⟩ (.slice a1 I.nm q1)).setCell ⟨w.heap.size, 2, none⟩ (.slice a2 I.nl q2) = w3 at hX3 hY3 hb3 ⊢
  refine leaves_cons (f := 16) (args := #[.pointer (some ⟨w.heap.size, 0, none⟩), .pointer (some ⟨w.heap.size + 1, 0, none⟩)]) (by simp) (by simp [go_sem]) ?_
  refine (catch16lack w.heap.size (w.heap.size + 1) _ _ _ _ [] w3 hX3 hY3 (by omega)).mono ?_
  rintro e u' w4 ⟨rfl, rfl, hx, hy, ht⟩
  simp only [Leaves, settle, List.dropWhile_nil]
  refine ⟨_, results_cells2 rfl _ _ ⟨w.heap.size, 0, none⟩ ⟨w.heap.size + 1, 0, none⟩ _ _ rfl rfl (run_loadVar_row w4 w.heap.size 27 27 _ (0, 0) _ hx Tryz.underlying27 rfl (by kernel_rfl)) (load38 _ _ _ hy), rfl, ?_⟩
  exact hb3.trans ⟨ht.os, ht.tape, ht.output, ht.size, fun k hk => ht.block k (by have := hb3.size; omega) (by omega)⟩
end Go.Proofs.YtfhjffkcobmkaaaGreat
