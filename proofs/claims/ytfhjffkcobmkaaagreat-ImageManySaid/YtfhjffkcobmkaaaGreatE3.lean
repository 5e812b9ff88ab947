/- A dump read. -/
import Derived.WalkKit
import Derived.Lib.Hide
import Derived.WalkLawsBesides
import Derived.WalkSpells
import Derived.BigQuiet
import Derived.Deep.QuietTactic
import Derived.Handy
import Derived.RangeFuncBox
import Derived.Shelf.Abstract
import Derived.Deep.RegionWith
import Derived.Deep.RegionHeld3
import Derived.StillTailTactics
import Derived.Lib.AppendStr
import Derived.RangeFuncNested
import Derived.RangeFuncBound
import Derived.RangeFuncCalls
import Derived.RangeFuncLeaves
import Derived.Shelf.AbstractIn
import Derived.Shelf.RegionOpen
import Derived.OwnWalkIn
import Derived.TacticsInMore
import Derived.LoopNIn
import Derived.LoopIn
import Derived.LaidEqlPtr
import Derived.Lib.Builder
import Derived.Lib.ConvBytes
import Derived.Test.YtfhjffkcobmkaaaGreatE2
set_option linter.unusedVariables false
set_option linter.unusedSimpArgs false
namespace Go.Proofs.YtfhjffkcobmkaaaGreat
open Go.RowKit
theorem set1_other (w : World) (N k : Nat) (h : k ≠ N) (o : Nat) (a : Value) : (w.setCell ⟨N, o, none⟩ a).heap[k]? = w.heap[k]? := Below.heap_setCell _ _ _ _ h
set_option maxHeartbeats 1000000 in
set_option maxRecDepth 100000 in
theorem dump34 (R S bx : Nat) (kd mx : Nat) (hk : kd ≤ 4096) (hm : mx ≤ 4096) (s : ByteArray) (hs : s.size ≤ 4096) (ys : List UInt8) (w : World) (hb : Boxed w bx 59 (.pointer (some ⟨R, 0, none⟩))) (hne : bx ≠ R) (hS : S < w.heap.size)
    (hr : Rd w R S (tx (One 109) ++ (be4 kd ++ (be4 (1 : Nat) ++ (be4 (1 : Nat) ++ (be4 mx ++ (tx s ++ ys))))))) :
    Calls Tryz.prog 34 #[.pointer (some ⟨bx, 0, none⟩)] w fun e w' => ∃ Z cap, e = .returned (.agg #[.string (One 109), .int .i64 kd, .int .i64 1, .int .i64 1, .int .i64 mx, .slice (some ⟨Z, 0, none⟩) s.size cap]) ∧ w.heap.size ≤ Z ∧ s.size ≤ cap ∧ cap ≤ maxLen ∧
      (∀ j u, (s.data.toList.map u8)[j]? = some u → w'.cell? ⟨Z, j, none⟩ = some u) ∧ Rd w' R S ys ∧ Turns (fun b => b = R) w w' := by
  have hbl := hb.lt
  have hRl : R < w.heap.size := by obtain ⟨_, _, h⟩ := hr; exact (Array.getElem?_eq_some_iff.1 h.h).1
  have hz : Below w.heap.size w (w.alloc (.cells #[.string ⟨#[]⟩, .int .i64 0, .int .i64 0, .int .i64 0, .int .i64 0, .slice none 0 0] 35)) := (Below.refl _ _).alloc (Nat.le_refl _) _
  have hn0 := heap_new w (.cells #[.string ⟨#[]⟩, .int .i64 0, .int .i64 0, .int .i64 0, .int .i64 0, .slice none 0 0] 35) _ rfl
  have hb0 : Boxed (w.alloc (.cells #[.string ⟨#[]⟩, .int .i64 0, .int .i64 0, .int .i64 0, .int .i64 0, .slice none 0 0] 35)) bx 59 (.pointer (some ⟨R, 0, none⟩)) := hb.alloc _
  have hd0 := Lib.hid (hr.later hz)
  have T0 := (Turns.of_below (S := fun b => b = R) hz)
  have hc0 := hb0.cell
  clear hr hb hz
  go_enter Tryz.func34, Tryz.ntmps34
  go_wp2_with fail
  generalize w.alloc (.cells #[.string ⟨#[]⟩, .int .i64 0, .int .i64 0, .int .i64 0, .int .i64 0, .slice none 0 0] 35) = wa at hn0 hb0 hd0 T0 hc0 ⊢
  refine (text31 R S (One 109) (by decide) _ _ hd0.out).mono ?_
  rintro e w1 ⟨rfl, hd1, ht1⟩
  have hb1 : Boxed w1 bx 59 _ := (ht1.block bx hb0.lt hne).trans hb0
  have hc1 := hb1.cell
  have hd1 := Lib.hid hd1
  have hn1 := (ht1.block w.heap.size (Array.getElem?_eq_some_iff.1 hn0).1 (by omega)).trans hn0
  have T1 := T0.trans ht1
  have hf1 := unfrozen hn1
  obtain ⟨n0, n1, n2, n3, n4, n5⟩ := cells6 hn1
  clear hc0 hb0 hd0 hn0 T0 ht1
  go_wp2_with fail
  have hrow : (w1.setCell ⟨w.heap.size, 0, none⟩ (.string (One 109))).heap[w.heap.size]? = some (.cells #[.string (One 109), .int .i64 0, .int .i64 0, .int .i64 0, .int .i64 0, .slice none 0 0] 35 (0, 0)) := by
    simp [World.setCell, Array.getElem?_modify, hn1]
  have hd2 := Lib.hid (hd1.out.same (set1_other w1 w.heap.size R (by omega) 0 (.string (One 109))) (set1_other w1 w.heap.size S (by omega) 0 _))
  have hb2 : Boxed (w1.setCell ⟨w.heap.size, 0, none⟩ (.string (One 109))) bx 59 _ := (set1_other w1 w.heap.size bx (by omega) 0 _).trans hb1
  have T2 : Turns (fun b => b = R ∨ b = w.heap.size) w (w1.setCell ⟨w.heap.size, 0, none⟩ (.string (One 109))) := (T1.mono (fun _ _ h => .inl h)).setCell (b := w.heap.size) (.inr rfl) 0 _
  clear hn1 hd1 hb1 hc1 T1 n0 n1 n2 n3 n4 n5 hf1
  generalize w1.setCell ⟨w.heap.size, 0, none⟩ (.string (One 109)) = w2 at hrow hd2 hb2 T2 ⊢
  have hd2 : Hid (Rd w2.drew R S (be4 kd ++ (be4 (1 : Nat) ++ (be4 (1 : Nat) ++ (be4 mx ++ (tx s ++ ys)))))) := Lib.hid (hd2.out.later (Below.refl _ _).drew)
  have hb2 : Boxed w2.drew bx 59 (.pointer (some ⟨R, 0, none⟩)) := hb2
  have hrow : w2.drew.heap[w.heap.size]? = _ := hrow
  have T2 : Turns (fun b => b = R ∨ b = w.heap.size) w w2.drew := T2.drew
  have hc2 := hb2.cell
  have hbN : bx ≠ w.heap.size := by omega
  have hbN' : w.heap.size ≠ bx := by omega
  go_region_held3 (fun W => W.cell? ⟨bx, 0, none⟩ = some (.pointer (some ⟨R, 0, none⟩))) (first | go_keep | exact hc2 | exact hc3 | exact hc4 | exact hc5 | exact hc6 | exact (hs1 _) | exact (hs2 _ _) | exact (hs3 _ _ _) | exact (hs4 _ _ _ _)) (first | (go_at_call 28; first
    | (refine (number28 R S kd hk _ _ hd2.out).mono ?_; rintro e w3 ⟨rfl, hd3, ht3⟩; have hb3 : Boxed w3 bx 59 _ := (ht3.block bx hb2.lt hne).trans hb2; have hc3 := hb3.cell; have hr3 := (ht3.block w.heap.size (Array.getElem?_eq_some_iff.1 hrow).1 (by omega)).trans hrow; have hd3 := Lib.hid hd3)
    | (refine (number28 R S 1 (by omega) (be4 (1 : Nat) ++ (be4 mx ++ (tx s ++ ys))) _ hd3.out).mono ?_; rintro e w4 ⟨rfl, hd4, ht4⟩; have hb4 : Boxed w4 bx 59 _ := (ht4.block bx hb3.lt hne).trans hb3; have hc4 := hb4.cell; have hr4 := (ht4.block w.heap.size (Array.getElem?_eq_some_iff.1 hr3).1 (by omega)).trans hr3; have hd4 := Lib.hid hd4)
    | (refine (number28 R S 1 (by omega) (be4 mx ++ (tx s ++ ys)) _ hd4.out).mono ?_; rintro e w5 ⟨rfl, hd5, ht5⟩; have hb5 : Boxed w5 bx 59 _ := (ht5.block bx hb4.lt hne).trans hb4; have hc5 := hb5.cell; have hr5 := (ht5.block w.heap.size (Array.getElem?_eq_some_iff.1 hr4).1 (by omega)).trans hr4; have hd5 := Lib.hid hd5)
    | (refine (number28 R S mx hm _ _ hd5.out).mono ?_; rintro e w6 ⟨rfl, hd6, ht6⟩; have hb6 : Boxed w6 bx 59 _ := (ht6.block bx hb5.lt hne).trans hb5; have hc6 := hb6.cell; have hr6 := (ht6.block w.heap.size (Array.getElem?_eq_some_iff.1 hr5).1 (by omega)).trans hr5; have hf6 := unfrozen hr6; obtain ⟨n0, n1, n2, n3, n4, n5⟩ := cells6 hr6; have hd6 := Lib.hid hd6)))
  have hrow7 : ((((w6.setCell ⟨w.heap.size, 1, none⟩ (.int .i64 kd)).setCell ⟨w.heap.size, 2, none⟩ (.int .i64 1)).setCell ⟨w.heap.size, 3, none⟩ (.int .i64 1)).setCell ⟨w.heap.size, 4, none⟩ (.int .i64 mx)).heap[w.heap.size]? = some (.cells #[.string (One 109), .int .i64 kd, .int .i64 1, .int .i64 1, .int .i64 mx, .slice none 0 0] 35 (0, 0)) := by
    simp [World.setCell, Array.getElem?_modify, hr6]
  have ho7 : ∀ k, k ≠ w.heap.size → ((((w6.setCell ⟨w.heap.size, 1, none⟩ (.int .i64 kd)).setCell ⟨w.heap.size, 2, none⟩ (.int .i64 1)).setCell ⟨w.heap.size, 3, none⟩ (.int .i64 1)).setCell ⟨w.heap.size, 4, none⟩ (.int .i64 mx)).heap[k]? = w6.heap[k]? := fun k h =>
    (set1_other _ _ k h 4 _).trans ((set1_other _ _ k h 3 _).trans ((set1_other _ _ k h 2 _).trans (set1_other _ _ k h 1 _)))
  have T7 : Turns (fun b => b = R ∨ b = w.heap.size) w ((((w6.setCell ⟨w.heap.size, 1, none⟩ (.int .i64 kd)).setCell ⟨w.heap.size, 2, none⟩ (.int .i64 1)).setCell ⟨w.heap.size, 3, none⟩ (.int .i64 1)).setCell ⟨w.heap.size, 4, none⟩ (.int .i64 mx)) :=
    ((((T2.trans ((ht3.trans (ht4.trans (ht5.trans ht6))).mono (fun _ _ h => .inl h))).setCell (b := w.heap.size) (.inr rfl) 1 _).setCell (b := w.heap.size) (.inr rfl) 2 _).setCell (b := w.heap.size) (.inr rfl) 3 _).setCell (b := w.heap.size) (.inr rfl) 4 _
  have hd7 := Lib.hid (hd6.out.same (ho7 R (by omega)) (ho7 S (by omega)))
  have hb7 := (ho7 bx (by omega)).trans hb6
  clear ho7 hc2 hc3 hc4 hc5 hc6 hb2 hb3 hb4 hb5 hb6 hrow hr3 hr4 hr5 hr6 n0 n1 n2 n3 n4 n5 hf6 hd2 hd3 hd4 hd5 hd6 ht3 ht4 ht5 ht6 T2
  generalize (((w6.setCell ⟨w.heap.size, 1, none⟩ (.int .i64 kd)).setCell ⟨w.heap.size, 2, none⟩ (.int .i64 1)).setCell ⟨w.heap.size, 3, none⟩ (.int .i64 1)).setCell ⟨w.heap.size, 4, none⟩ (.int .i64 mx) = w7 at hrow7 hd7 hb7 T7 ⊢
  have hc7 := (show Boxed w7 bx 59 _ from hb7).cell
  go_wp2_with fail
  refine (text31 R S s hs ys _ hd7.out).mono ?_
  rintro e w8 ⟨rfl, hd8, ht8⟩
  have hcv := Lib.run_convert_string_bytes (P := Tryz.prog) w8 9 28 5 s Tryz.underlying9 Tryz.underlying28 Tryz.underlying5
  have hr8 := (ht8.block w.heap.size (Array.getElem?_eq_some_iff.1 hrow7).1 (by omega)).trans hrow7
  have l8 := (Array.getElem?_eq_some_iff.1 hr8).1
  have hr9 := (Lib.bytesWorld_at_old w8 5 s w.heap.size l8).trans hr8
  have hf9 := unfrozen hr9
  obtain ⟨n0, n1, n2, n3, n4, n5⟩ := cells6 hr9
  go_wp2_with fail
  have hoF : ∀ (W : World) k (a b c d e f g : Value), k ≠ w.heap.size → (((((((W.setCell ⟨w.heap.size, 5, none⟩ a).setCell ⟨w.heap.size, 0, none⟩ b).setCell ⟨w.heap.size, 1, none⟩ c).setCell ⟨w.heap.size, 2, none⟩ d).setCell ⟨w.heap.size, 3, none⟩ e).setCell ⟨w.heap.size, 4, none⟩ f).setCell ⟨w.heap.size, 5, none⟩ g).heap[k]? = W.heap[k]? := fun W k a b c d e f g h =>
    (set1_other _ _ k h 5 _).trans ((set1_other _ _ k h 4 _).trans ((set1_other _ _ k h 3 _).trans ((set1_other _ _ k h 2 _).trans ((set1_other _ _ k h 1 _).trans ((set1_other _ _ k h 0 _).trans (set1_other _ _ k h 5 _))))))
  have hbw : Below w8.heap.size w8 (Lib.bytesWorld w8 5 s) := ⟨rfl, rfl, rfl, by rw [Lib.bytesWorld_size]; omega, fun k hk => Lib.bytesWorld_at_old w8 5 s k hk⟩
  have T9 := T7.trans ((ht8.mono (fun _ _ h => .inl h)).trans (Turns.of_below hbw))
  have TF := fun a b c d e f g => ((((((T9.setCell (b := w.heap.size) (.inr rfl) 5 a).setCell (b := w.heap.size) (.inr rfl) 0 b).setCell (b := w.heap.size) (.inr rfl) 1 c).setCell (b := w.heap.size) (.inr rfl) 2 d).setCell (b := w.heap.size) (.inr rfl) 3 e).setCell (b := w.heap.size) (.inr rfl) 4 f).setCell (b := w.heap.size) (.inr rfl) 5 g
  have s7 := T7.size
  have s8 := ht8.size
  have hd9 := hd8.later hbw
  refine bodyPost_ret (results_cell_row rfl _ _ w.heap.size 35 #[.string (One 109), .int .i64 kd, .int .i64 1, .int .i64 1, .int .i64 mx, .slice (some ⟨w8.heap.size, 0, none⟩) s.size (grownCap w8 s.size 0 5)] (0, 0) _ rfl (by simp [World.setCell, Array.getElem?_modify, hr9]) Tryz.underlying35 rfl (by kernel_rfl)) rfl ?_
  refine ⟨w8.heap.size, grownCap w8 s.size 0 5, rfl, by omega, grownCap_ge _ _ _ _, grownCap_le_maxLen _ _ _ _ (by unfold maxLen; omega), ?_, hd9.same (hoF _ _ _ _ _ _ _ _ _ (by omega)) (hoF _ _ _ _ _ _ _ _ _ (by omega)), (TF _ _ _ _ _ _ _).mono (fun k hk h => by rcases h with h | h; exact h; omega)⟩
  intro j u hj
  have hjl : j < s.size := by have := (List.getElem?_eq_some_iff.1 hj).1; simpa using this
  refine (World.cell?_of_block (hoF _ _ _ _ _ _ _ _ _ (by show w8.heap.size ≠ _; omega))).trans ?_
  rw [Lib.bytesWorld_cell w8 5 s j hjl]
  rw [List.getElem?_map] at hj
  simp at hj
  obtain ⟨a, h1, rfl⟩ := hj
  rw [List.getD_eq_getElem?_getD, Array.getElem?_toList, h1]
  rfl
end Go.Proofs.YtfhjffkcobmkaaaGreat
