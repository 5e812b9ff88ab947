/- A link read. -/
import Derived.WalkKit
import Derived.Lib.Hide
import Derived.WalkLawsBesides
import Derived.WalkSpells
import Derived.BigQuiet
import Derived.Deep.QuietTactic
import Derived.Handy
import Derived.RangeFuncBox
import Derived.Shelf.Abstract
import Derived.Deep.RegionWith
import Derived.Deep.RegionHeld3
import Derived.StillTailTactics
import Derived.Lib.AppendStr
import Derived.RangeFuncNested
import Derived.RangeFuncBound
import Derived.RangeFuncCalls
import Derived.RangeFuncLeaves
import Derived.Shelf.AbstractIn
import Derived.Shelf.RegionOpen
import Derived.OwnWalkIn
import Derived.TacticsInMore
import Derived.LoopNIn
import Derived.LoopIn
import Derived.LaidEqlPtr
import Derived.Lib.Builder
import Derived.Test.YtfhjffkcobmkaaaGreatE1
set_option linter.unusedVariables false
set_option linter.unusedSimpArgs false
namespace Go.Proofs.YtfhjffkcobmkaaaGreat
open Go.RowKit
theorem cells3 {w : World} {b : Nat} {t : TypeId} {f : Nat × Nat} {c0 c1 c2 : Value} (h : w.heap[b]? = some (.cells #[c0, c1, c2] t f)) :
    w.cell? ⟨b, 0, none⟩ = some c0 ∧ w.cell? ⟨b, 1, none⟩ = some c1 ∧ w.cell? ⟨b, 2, none⟩ = some c2 := by
  simp [World.cell?, h]
theorem Rd.later {w W : World} {R S : Nat} {rest : List UInt8} (h : Rd w R S rest) (hb : Below w.heap.size w W) : Rd W R S rest := by
  obtain ⟨off, cap, h⟩ := h
  refine ⟨off, cap, (hb.block R (Array.getElem?_eq_some_iff.1 h.h).1).trans h.h, h.c1, h.c2, h.ne, fun j u hj => keepc hb (h.cells j u hj)⟩
theorem set3_heap (w : World) (N k : Nat) (h : k ≠ N) (a b c : Value) : (((w.setCell ⟨N, 0, none⟩ a).setCell ⟨N, 1, none⟩ b).setCell ⟨N, 2, none⟩ c).heap[k]? = w.heap[k]? :=
  (Below.heap_setCell _ _ _ _ h).trans ((Below.heap_setCell _ _ _ _ h).trans (Below.heap_setCell _ _ _ _ h))
theorem set3_row (w : World) (N : Nat) (t : TypeId) (c0 c1 c2 a b c : Value) (h : w.heap[N]? = some (.cells #[c0, c1, c2] t (0, 0))) : (((w.setCell ⟨N, 0, none⟩ a).setCell ⟨N, 1, none⟩ b).setCell ⟨N, 2, none⟩ c).heap[N]? = some (.cells #[a, b, c] t (0, 0)) := by
  simp [World.setCell, Array.getElem?_modify, h]
theorem Rd.same {w W : World} {R S : Nat} {rest : List UInt8} (h : Rd w R S rest) (hR : W.heap[R]? = w.heap[R]?) (hS : W.heap[S]? = w.heap[S]?) : Rd W R S rest := by
  obtain ⟨off, cap, h⟩ := h
  exact ⟨off, cap, hR.trans h.h, h.c1, h.c2, h.ne, fun j u hj => (World.cell?_of_block hS).trans (h.cells j u hj)⟩
theorem set3_other (w : World) (N k : Nat) (h : k ≠ N) (a b c : Value) : (((w.setCell ⟨N, 0, none⟩ a).setCell ⟨N, 1, none⟩ b).setCell ⟨N, 2, none⟩ c).cell? ⟨k, 0, none⟩ = w.cell? ⟨k, 0, none⟩ :=
  World.cell?_of_block (set3_heap w N k h a b c)
set_option maxHeartbeats 1000000 in
set_option maxRecDepth 100000 in
theorem link36 (R S bx : Nat) (v : Nat) (hv : v ≤ 4096) (ys : List UInt8) (w : World) (hb : Boxed w bx 59 (.pointer (some ⟨R, 0, none⟩))) (hne : bx ≠ R) (hS : S < w.heap.size) (hr : Rd w R S (tx (One 108) ++ (tx (One 112) ++ (be4 v ++ ys)))) :
    Calls Tryz.prog 36 #[.pointer (some ⟨bx, 0, none⟩)] w fun e w' => e = .returned (.agg #[.string (One 108), .string (One 112), .int .i64 v]) ∧ Rd w' R S ys ∧ Turns (fun b => b = R) w w' := by
  have hc := hb.cell
  have hbl := hb.lt
  have hr := Lib.hid hr
  go_enter Tryz.func36, Tryz.ntmps36
  go_wp2_with fail
  have hRl : R < w.heap.size := by obtain ⟨_, _, h⟩ := hr.out; exact (Array.getElem?_eq_some_iff.1 h.h).1
  have hd0 : Rd (w.alloc (.cells #[.string ⟨#[]⟩, .string ⟨#[]⟩, .int .i64 0] 37)) R S (tx (One 108) ++ (tx (One 112) ++ (be4 v ++ ys))) := hr.out.later ((Below.refl _ _).alloc (Nat.le_refl _) _)
  have hb0 : Boxed (w.alloc (.cells #[.string ⟨#[]⟩, .string ⟨#[]⟩, .int .i64 0] 37)) bx 59 (.pointer (some ⟨R, 0, none⟩)) := hb.alloc _
  have hn0 : (w.alloc (.cells #[.string ⟨#[]⟩, .string ⟨#[]⟩, .int .i64 0] 37)).heap[w.heap.size]? = _ := heap_new _ _ _ rfl
  have TW : Turns (fun b => b = R) w (w.alloc (.cells #[.string ⟨#[]⟩, .string ⟨#[]⟩, .int .i64 0] 37)).drew := (Turns.of_below ((Below.refl _ _).alloc (Nat.le_refl _) _)).drew
  generalize w.alloc (.cells #[.string ⟨#[]⟩, .string ⟨#[]⟩, .int .i64 0] 37) = wa at hd0 hb0 hn0 TW ⊢
  have hd0 : Hid (Rd wa.drew R S (tx (One 108) ++ (tx (One 112) ++ (be4 v ++ ys)))) := Lib.hid (hd0.later (Below.refl _ _).drew)
  have hb0 : Boxed wa.drew bx 59 (.pointer (some ⟨R, 0, none⟩)) := hb0
  have hn0 : wa.drew.heap[w.heap.size]? = _ := hn0
  have hc0 := hb0.cell
  clear hr hb hc
  have T0 : Turns (fun b => b = R) w wa.drew := TW
  go_region_held3 (fun W => W.cell? ⟨bx, 0, none⟩ = some (.pointer (some ⟨R, 0, none⟩))) (first | go_keep | exact hc0 | exact hc1 | exact hc2 | exact hc3 | exact hc4 _ _ _) (first | (go_at_call 31; first | (refine (text31 R S (One 108) (by decide) _ _ hd0.out).mono ?_; rintro e w1 ⟨rfl, hd1, ht1⟩; have hb1 : Boxed w1 bx 59 _ := (ht1.block bx hb0.lt hne).trans hb0; have hc1 := hb1.cell; have hn1 := (ht1.block w.heap.size (Array.getElem?_eq_some_iff.1 hn0).1 (by omega)).trans hn0; have hd1 := Lib.hid hd1) | (refine (text31 R S (One 112) (by decide) _ _ hd1.out).mono ?_; rintro e w2 ⟨rfl, hd2, ht2⟩; have hb2 : Boxed w2 bx 59 _ := (ht2.block bx hb1.lt hne).trans hb1; have hc2 := hb2.cell; have hn2 := (ht2.block w.heap.size (Array.getElem?_eq_some_iff.1 hn1).1 (by omega)).trans hn1; have hd2 := Lib.hid hd2)) | (go_at_call 28; refine (number28 R S v hv _ _ hd2.out).mono ?_; rintro e w3 ⟨rfl, hd3, ht3⟩; have hb3 : Boxed w3 bx 59 _ := (ht3.block bx hb2.lt hne).trans hb2; have hc3 := hb3.cell; have hn3 := (ht3.block w.heap.size (Array.getElem?_eq_some_iff.1 hn2).1 (by omega)).trans hn2; have hf3 := unfrozen hn3; obtain ⟨n30, n31, n32⟩ := cells3 hn3; have TA := Lib.hid (T0.trans (ht1.trans (ht2.trans ht3))); have hc4 := fun a b c => (set3_other w3 w.heap.size bx (by omega) a b c).trans hc3; have hd3 := Lib.hid hd3))
  have hrow := set3_row w3 w.heap.size 37 _ _ _ (.string (One 108)) (.string (One 112)) (.int .i64 v) hn3
  have hrd := Lib.hid (hd3.out.same (set3_heap w3 w.heap.size R (by omega) (.string (One 108)) (.string (One 112)) (.int .i64 v)) (set3_heap w3 w.heap.size S (by omega) _ _ _))
  have hT : Turns (fun b => b = R ∨ b = w.heap.size) w (((w3.setCell ⟨w.heap.size, 0, none⟩ (.string (One 108))).setCell ⟨w.heap.size, 1, none⟩ (.string (One 112))).setCell ⟨w.heap.size, 2, none⟩ (.int .i64 v)) :=
    ((((TA.out.mono (fun _ _ h => .inl h)).setCell (b := w.heap.size) (.inr rfl) 0 _).setCell (b := w.heap.size) (.inr rfl) 1 _).setCell (b := w.heap.size) (.inr rfl) 2 _)
  have hT := hT.mono (S' := fun b => b = R) (fun k hk h => by rcases h with h | h; exact h; omega)
  have hT := Lib.hid hT
  clear hc0 hc1 hc2 hc3 hc4 hb0 hb1 hb2 hb3 hn0 hn1 hn2 hn3 n30 n31 n32 hd0 hd1 hd2 hd3 hf3
  generalize ((w3.setCell ⟨w.heap.size, 0, none⟩ (.string (One 108))).setCell ⟨w.heap.size, 1, none⟩ (.string (One 112))).setCell ⟨w.heap.size, 2, none⟩ (.int .i64 v) = w4 at hrow hrd hT ⊢
  go_wp2_with fail
  refine bodyPost_ret (results_cell_row rfl _ _ w.heap.size 37 _ (0, 0) _ rfl hrow Tryz.underlying37 rfl (by kernel_rfl)) rfl ?_
  exact ⟨rfl, hrd.out, hT.out⟩
end Go.Proofs.YtfhjffkcobmkaaaGreat
