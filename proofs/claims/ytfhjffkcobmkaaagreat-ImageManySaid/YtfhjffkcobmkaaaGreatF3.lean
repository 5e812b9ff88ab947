/- A program read. -/
import Derived.WalkKit
import Derived.Lib.Hide
import Derived.WalkLawsBesides
import Derived.WalkSpells
import Derived.BigQuiet
import Derived.Deep.QuietTactic
import Derived.Handy
import Derived.RangeFuncBox
import Derived.Shelf.Abstract
import Derived.Deep.RegionWith
import Derived.Deep.RegionHeld3
import Derived.StillTailTactics
import Derived.Lib.AppendStr
import Derived.RangeFuncNested
import Derived.RangeFuncBound
import Derived.RangeFuncCalls
import Derived.RangeFuncLeaves
import Derived.Shelf.AbstractIn
import Derived.Shelf.RegionOpen
import Derived.OwnWalkIn
import Derived.TacticsInMore
import Derived.LoopNIn
import Derived.LoopIn
import Derived.LaidEqlPtr
import Derived.Lib.Builder
import Derived.Lib.ConvBytes
import Derived.Maps.AppendAt
import Derived.Deep.DeepCutAuto
import Derived.Defers
import Derived.Recover
import Derived.Test.YtfhjffkcobmkaaaGreatF2
set_option linter.unusedVariables false
set_option linter.unusedSimpArgs false
namespace Go.Proofs.YtfhjffkcobmkaaaGreat
open Go.RowKit
theorem cells5' {w : World} {b : Nat} {t : TypeId} {f : Nat × Nat} {c0 c1 c2 c3 c4 : Value} (h : w.heap[b]? = some (.cells #[c0, c1, c2, c3, c4] t f)) :
    w.cell? ⟨b, 0, none⟩ = some c0 ∧ w.cell? ⟨b, 1, none⟩ = some c1 ∧ w.cell? ⟨b, 2, none⟩ = some c2 ∧ w.cell? ⟨b, 3, none⟩ = some c3 ∧ w.cell? ⟨b, 4, none⟩ = some c4 := by
  simp [World.cell?, h]
/-- a program's two texts are read -/
def Prog1 (w : World) (N bx R S : Nat) (s : ByteArray) (zs : List UInt8) (wx : World) : Prop :=
  ∃ Z cap, N < Z ∧ wx.heap[N]? = some (.cells #[.string (One 112), .slice (some ⟨Z, 0, none⟩) s.size cap, .slice none 0 0, .int .i64 0, .int .i64 0] 31 (0, 0)) ∧ Boxed wx bx 59 (.pointer (some ⟨R, 0, none⟩)) ∧ DataAt s Z cap wx ∧ Rd wx R S zs ∧ Turns (fun b => b = R ∨ b = N) w wx
theorem bytes_below (W : World) (s : ByteArray) : Below W.heap.size W (Lib.bytesWorld W 5 s) := ⟨rfl, rfl, rfl, by rw [Lib.bytesWorld_size]; omega, fun k hk => Lib.bytesWorld_at_old W 5 s k hk⟩
theorem bytes_data (W : World) (s : ByteArray) (cap : Nat) (h : s.size ≤ cap) (hm : cap ≤ maxLen) : DataAt s W.heap.size cap (Lib.bytesWorld W 5 s) := by
  refine ⟨h, hm, fun j u hj => ?_⟩
  have hjl : j < s.size := by have := (List.getElem?_eq_some_iff.1 hj).1; simpa using this
  rw [Lib.bytesWorld_cell W 5 s j hjl]
  rw [List.getElem?_map] at hj
  simp at hj
  obtain ⟨a, h1, rfl⟩ := hj
  rw [List.getD_eq_getElem?_getD, Array.getElem?_toList, h1]
  rfl
theorem prog1A {w w2 : World} {N bx R S : Nat} {s : ByteArray} {zs : List UInt8} (cap : Nat) (hN : N < w2.heap.size) (hbN : bx ≠ N) (hRN : R ≠ N) (hSN : S ≠ N) (h : w2.heap[N]? = some (.cells #[.string ⟨#[]⟩, .slice none 0 0, .slice none 0 0, .int .i64 0, .int .i64 0] 31 (0, 0)))
    (hb : Boxed w2 bx 59 (.pointer (some ⟨R, 0, none⟩))) (hd : Rd w2 R S zs) (T : Turns (fun b => b = R) w w2) (hc : s.size ≤ cap) (hm : cap ≤ maxLen) :
    Prog1 w N bx R S s zs (((Lib.bytesWorld w2 5 s).setCell ⟨N, 0, none⟩ (.string (One 112))).setCell ⟨N, 1, none⟩ (.slice (some ⟨w2.heap.size, 0, none⟩) s.size cap)) := by
  have hB := bytes_below w2 s
  have ho : ∀ k, k ≠ N → (((Lib.bytesWorld w2 5 s).setCell ⟨N, 0, none⟩ (.string (One 112))).setCell ⟨N, 1, none⟩ (.slice (some ⟨w2.heap.size, 0, none⟩) s.size cap)).heap[k]? = (Lib.bytesWorld w2 5 s).heap[k]? := fun k hk => (set1_other _ N k hk 1 _).trans (set1_other _ N k hk 0 _)
  refine ⟨w2.heap.size, cap, hN, ?_, (ho _ hbN).trans ((hB.block _ hb.lt).trans hb), (bytes_data w2 s cap hc hm).same fun _ => ho _ (by omega), (hd.later hB).same (ho _ hRN) (ho _ hSN), ?_⟩
  · have h1 := (hB.block N hN).trans h
    rw [setCell_heap (setCell_heap h1 0 _)]
    rfl
  · exact ((((T.mono (fun _ _ h => .inl h)).trans (Turns.of_below hB)).setCell (b := N) (.inr rfl) 0 _).setCell (b := N) (.inr rfl) 1 _)
theorem prog1B {w w2 : World} {N bx R S : Nat} {s : ByteArray} {zs : List UInt8} (cap : Nat) (hN : N < w2.heap.size) (hbN : bx ≠ N) (hRN : R ≠ N) (hSN : S ≠ N) (h : w2.heap[N]? = some (.cells #[.string ⟨#[]⟩, .slice none 0 0, .slice none 0 0, .int .i64 0, .int .i64 0] 31 (0, 0)))
    (hb : Boxed w2 bx 59 (.pointer (some ⟨R, 0, none⟩))) (hd : Rd w2 R S zs) (T : Turns (fun b => b = R) w w2) (hc : s.size ≤ cap) (hm : cap ≤ maxLen) :
    Prog1 w N bx R S s zs ((Lib.bytesWorld (w2.setCell ⟨N, 0, none⟩ (.string (One 112))) 5 s).setCell ⟨N, 1, none⟩ (.slice (some ⟨w2.heap.size, 0, none⟩) s.size cap)) := by
  have hs : (w2.setCell ⟨N, 0, none⟩ (.string (One 112))).heap.size = w2.heap.size := by simp [World.setCell]
  have hB := bytes_below (w2.setCell ⟨N, 0, none⟩ (.string (One 112))) s
  have hda := bytes_data (w2.setCell ⟨N, 0, none⟩ (.string (One 112))) s cap hc hm
  rw [hs] at hda
  have ho : ∀ k, k < w2.heap.size → k ≠ N → ((Lib.bytesWorld (w2.setCell ⟨N, 0, none⟩ (.string (One 112))) 5 s).setCell ⟨N, 1, none⟩ (.slice (some ⟨w2.heap.size, 0, none⟩) s.size cap)).heap[k]? = w2.heap[k]? := fun k hl hk => (set1_other _ N k hk 1 _).trans ((hB.block k (by rw [hs]; exact hl)).trans (set1_other _ N k hk 0 _))
  have lR : R < w2.heap.size ∧ (∀ j, j < zs.length → S < w2.heap.size) := by
    obtain ⟨off, c0, h⟩ := hd
    refine ⟨(Array.getElem?_eq_some_iff.1 h.h).1, fun j hj => ?_⟩
    exact World.block_lt_of_cell? w2 _ (h.cells j _ (List.getElem?_eq_getElem (by simpa using hj)))
  refine ⟨w2.heap.size, cap, hN, ?_, (ho _ hb.lt hbN).trans hb, hda.same fun _ => set1_other _ N _ (by omega) 1 _, ?_, ?_⟩
  · have h1 := (hB.block N (by rw [hs]; exact hN)).trans (setCell_heap h 0 _)
    rw [setCell_heap h1]
    rfl
  · refine (((hd.same (set1_other w2 N R hRN 0 _) (set1_other w2 N S hSN 0 _)).later hB).same (set1_other _ N R hRN 1 _) (set1_other _ N S hSN 1 _))
  · exact ((((T.mono (fun _ _ h => .inl h)).setCell (b := N) (.inr rfl) 0 _).trans (Turns.of_below hB)).setCell (b := N) (.inr rfl) 1 _)
theorem set5_heap (w : World) (N k : Nat) (h : k ≠ N) (a b c d e : Value) : (((((w.setCell ⟨N, 0, none⟩ a).setCell ⟨N, 1, none⟩ b).setCell ⟨N, 2, none⟩ c).setCell ⟨N, 3, none⟩ d).setCell ⟨N, 4, none⟩ e).heap[k]? = w.heap[k]? :=
  (set1_other _ N k h 4 _).trans ((set1_other _ N k h 3 _).trans ((set1_other _ N k h 2 _).trans ((set1_other _ N k h 1 _).trans (set1_other _ N k h 0 _))))
theorem set5_row {w : World} {N : Nat} {t : TypeId} {c0 c1 c2 c3 c4 : Value} (h : w.heap[N]? = some (.cells #[c0, c1, c2, c3, c4] t (0, 0))) (a b c d e : Value) : (((((w.setCell ⟨N, 0, none⟩ a).setCell ⟨N, 1, none⟩ b).setCell ⟨N, 2, none⟩ c).setCell ⟨N, 3, none⟩ d).setCell ⟨N, 4, none⟩ e).heap[N]? = some (.cells #[a, b, c, d, e] t (0, 0)) := by
  rw [setCell_heap (setCell_heap (setCell_heap (setCell_heap (setCell_heap h 0 _) 1 _) 2 _) 3 _) 4 _]
  rfl
theorem blk2 (w2 : World) (N : Nat) (s : ByteArray) (h : w2.heap[N]? = some (.cells #[.string ⟨#[]⟩, .slice none 0 0, .slice none 0 0, .int .i64 0, .int .i64 0] 31 (0, 0))) :
    w2.heap[N]? = some (.cells #[.string ⟨#[]⟩, .slice none 0 0, .slice none 0 0, .int .i64 0, .int .i64 0] 31 (0, 0)) ∧
    (Lib.bytesWorld w2 5 s).heap[N]? = some (.cells #[.string ⟨#[]⟩, .slice none 0 0, .slice none 0 0, .int .i64 0, .int .i64 0] 31 (0, 0)) ∧
    (Lib.bytesWorld (w2.setCell ⟨N, 0, none⟩ (.string (One 112))) 5 s).heap[N]? = some (.cells #[.string (One 112), .slice none 0 0, .slice none 0 0, .int .i64 0, .int .i64 0] 31 (0, 0)) := by
  have hl := (Array.getElem?_eq_some_iff.1 h).1
  refine ⟨h, (Lib.bytesWorld_at_old w2 5 s N hl).trans h, (Lib.bytesWorld_at_old _ 5 s N (by simpa [World.setCell] using hl)).trans ?_⟩
  rw [setCell_heap h]
  rfl
set_option maxHeartbeats 400000 in
set_option maxRecDepth 100000 in
theorem program30 (R S bx : Nat) (x : Nat) (hx : x ≤ 4096) (s : ByteArray) (hs : s.size ≤ 4096) (ys : List UInt8) (w : World) (hb : Boxed w bx 59 (.pointer (some ⟨R, 0, none⟩))) (hne : bx ≠ R) (hS : S < w.heap.size)
    (hr : Rd w R S (tx (One 112) ++ (tx s ++ (be4 (0 : Nat) ++ (be4 x ++ (be4 (0 : Nat) ++ ys)))))) :
    Calls Tryz.prog 30 #[.pointer (some ⟨bx, 0, none⟩)] w fun e w' => ∃ Z cap, e = .returned (.agg #[.string (One 112), .slice (some ⟨Z, 0, none⟩) s.size cap, .slice none 0 0, .int .i64 x, .int .i64 0]) ∧ w.heap.size ≤ Z ∧ DataAt s Z cap w' ∧ Rd w' R S ys ∧ Turns (fun b => b = R) w w' := by
  have hbl := hb.lt
  have hRl : R < w.heap.size := by obtain ⟨_, _, h⟩ := hr; exact (Array.getElem?_eq_some_iff.1 h.h).1
  have hz : Below w.heap.size w (w.alloc (.cells #[.string ⟨#[]⟩, .slice none 0 0, .slice none 0 0, .int .i64 0, .int .i64 0] 31)) := (Below.refl _ _).alloc (Nat.le_refl _) _
  have hn0 := heap_new w (.cells #[.string ⟨#[]⟩, .slice none 0 0, .slice none 0 0, .int .i64 0, .int .i64 0] 31) _ rfl
  have hb0 : Boxed (w.alloc (.cells #[.string ⟨#[]⟩, .slice none 0 0, .slice none 0 0, .int .i64 0, .int .i64 0] 31)) bx 59 (.pointer (some ⟨R, 0, none⟩)) := hb.alloc _
  have hd0 := hr.later hz
  have T0 := (Turns.of_below (S := fun b => b = R) hz)
  clear hr hb hz
  go_enter Tryz.func30, Tryz.ntmps30
  go_upto_region 1 with fail
  generalize w.alloc (.cells #[.string ⟨#[]⟩, .slice none 0 0, .slice none 0 0, .int .i64 0, .int .i64 0] 31) = wa at hn0 hb0 hd0 T0 ⊢
  go_cut [1] (fun p1 wx => p1 = .pointer (some ⟨w.heap.size, 0, none⟩) ∧ Prog1 w w.heap.size bx R S s (be4 (0 : Nat) ++ (be4 x ++ (be4 (0 : Nat) ++ ys))) wx)
  case first =>
    have hd0 : Hid (Rd wa.drew R S (tx (One 112) ++ (tx s ++ (be4 (0 : Nat) ++ (be4 x ++ (be4 (0 : Nat) ++ ys)))))) := Lib.hid (hd0.later (Below.refl _ _).drew)
    have hb0 : Boxed wa.drew bx 59 (.pointer (some ⟨R, 0, none⟩)) := hb0
    have hn0 : wa.drew.heap[w.heap.size]? = _ := hn0
    have hc0 := hb0.cell
    have T0 : Turns (fun b => b = R) w wa.drew := T0.drew
    have hcv : ∀ W : World, (convert 9 28 (.string s)).run Tryz.prog W = _ := fun W => Lib.run_convert_string_bytes (P := Tryz.prog) W 9 28 5 s Tryz.underlying9 Tryz.underlying28 Tryz.underlying5
    go_region_with (go_at_call 31; first | (refine (text31 R S (One 112) (by decide) _ _ hd0.out).mono ?_; rintro e w1 ⟨rfl, hd1, ht1⟩; have hb1 : Boxed w1 bx 59 _ := (ht1.block bx hb0.lt hne).trans hb0; have hc1 := hb1.cell; have hn1 := (ht1.block w.heap.size (Array.getElem?_eq_some_iff.1 hn0).1 (by omega)).trans hn0; have hd1 := Lib.hid hd1) | (refine (text31 R S s hs _ _ hd1.out).mono ?_; rintro e w2 ⟨rfl, hd2, ht2⟩; have hb2 : Boxed w2 bx 59 _ := (ht2.block bx hb1.lt hne).trans hb1; have hn2 := (ht2.block w.heap.size (Array.getElem?_eq_some_iff.1 hn1).1 (by omega)).trans hn1; have hd2 := Lib.hid hd2; have HB2 := Lib.hid (blk2 w2 w.heap.size s hn2); obtain ⟨m0, m1, -⟩ := cells5' HB2.out.1; obtain ⟨p0, p1, -⟩ := cells5' HB2.out.2.1; obtain ⟨q0, q1, -⟩ := cells5' HB2.out.2.2; have fm := unfrozen HB2.out.1; have fp := unfrozen HB2.out.2.1; have fq := unfrozen HB2.out.2.2; have hN2 : w.heap.size < w2.heap.size := (Array.getElem?_eq_some_iff.1 hn2).1))
    all_goals
      have T2 := T0.trans (ht1.trans ht2)
      have hgc : s.size ≤ grownCap w2 s.size 0 5 := grownCap_ge _ _ _ _
      have hgm := grownCap_le_maxLen w2 s.size 0 5 (by unfold maxLen; omega)
      have HA := prog1A (w := w) (grownCap w2 s.size 0 5) hN2 (by omega) (by omega) (by omega) hn2 hb2 hd2.out T2 hgc hgm
      have HB := prog1B (w := w) (grownCap (w2.setCell ⟨w.heap.size, 0, none⟩ (.string (One 112))) s.size 0 5) hN2 (by omega) (by omega) (by omega) hn2 hb2 hd2.out T2 (grownCap_ge _ _ _ _) (grownCap_le_maxLen _ s.size 0 5 (by unfold maxLen; omega))
      have HA := Lib.hid HA
      have HB := Lib.hid HB
      clear hc0 hc1 hn0 hn1 hn2 hb0 hb1 hb2 hd0 hd1 hd2 T0 T2 ht1 ht2 HB2 m0 m1 p0 p1 q0 q1 fm fp fq hcv hgc hgm
      go_wp2_with fail
      go_meet
      case rel => exact ⟨rfl, by first | (with_reducible exact HA.out) | (with_reducible exact HB.out)⟩
  case rest =>
    obtain ⟨rfl, Z, cap, hNZ, hn1, hb1, hda1, hd1, T1⟩ := hcut
    clear hn0 hb0 hd0 T0
    have hc1 := hb1.cell
    obtain ⟨n0, n1, n2, n3, n4⟩ := cells5' hn1
    have hN1 := (Array.getElem?_eq_some_iff.1 hn1).1
    have HR := Lib.hid (rows32none R S (.func (.func 31) #[.pointer (some ⟨R, 0, none⟩)] #[]) (be4 x ++ (be4 (0 : Nat) ++ ys)) _ hd1)
    have hn1 := Lib.hid hn1
    have hda1 := Lib.hid hda1
    go_wp2_with fail
    refine HR.out.mono ?_
    rintro e w3 ⟨rfl, hd3, ht3⟩
    have hn3 := (ht3.block _ hN1 (by omega)).trans hn1.out
    have hb3 : Boxed w3 bx 59 _ := (ht3.block bx hb1.lt hne).trans hb1
    have hda3 := Lib.hid (hda1.out.same fun hs0 => ht3.block Z (hda1.out.lt hs0) (by omega))
    have T3 := T1.trans (ht3.mono (fun _ _ h => .inl h))
    have hf3 := unfrozen hn3
    obtain ⟨n0, n1, n2, n3, n4⟩ := cells5' hn3
    have hd3 := Lib.hid hd3
    clear HR hc1 hb1 hn1 hda1 hd1 ht3 T1 n0 n1 n2 n3 n4
    obtain ⟨n0, n1, n2, n3, n4⟩ := cells5' hn3
    go_wp2_with fail
    have hrow : (w3.setCell ⟨w.heap.size, 2, none⟩ (.slice none 0 0)).heap[w.heap.size]? = some (.cells #[.string (One 112), .slice (some ⟨Z, 0, none⟩) s.size cap, .slice none 0 0, .int .i64 0, .int .i64 0] 31 (0, 0)) := by
      rw [setCell_heap hn3]; rfl
    have ho4 : ∀ k, k ≠ w.heap.size → (w3.setCell ⟨w.heap.size, 2, none⟩ (.slice none 0 0)).heap[k]? = w3.heap[k]? := fun k h => set1_other _ _ k h 2 _
    have hd4 := Lib.hid (hd3.out.same (ho4 R (by omega)) (ho4 S (by omega)))
    have hb4 : Boxed (w3.setCell ⟨w.heap.size, 2, none⟩ (.slice none 0 0)) bx 59 _ := (ho4 bx (by omega)).trans hb3
    have hda4 := Lib.hid (hda3.out.same fun _ => ho4 Z (by omega))
    have T4 : Turns (fun b => b = R ∨ b = w.heap.size) w (w3.setCell ⟨w.heap.size, 2, none⟩ (.slice none 0 0)) := T3.setCell (b := w.heap.size) (.inr rfl) 2 _
    clear ho4 hn3 hb3 hd3 hda3 T3 hf3 n0 n1 n2 n3 n4
    generalize w3.setCell ⟨w.heap.size, 2, none⟩ (.slice none 0 0) = w4 at hrow hd4 hb4 hda4 T4 ⊢
    have hd4 : Hid (Rd w4.drew R S (be4 x ++ (be4 (0 : Nat) ++ ys))) := Lib.hid (hd4.out.later (Below.refl _ _).drew)
    have hb4 : Boxed w4.drew bx 59 (.pointer (some ⟨R, 0, none⟩)) := hb4
    have hda4 : Hid (DataAt s Z cap w4.drew) := Lib.hid (hda4.out.same fun _ => rfl)
    have hrow : w4.drew.heap[w.heap.size]? = _ := hrow
    have T4 : Turns (fun b => b = R ∨ b = w.heap.size) w w4.drew := T4.drew
    have hc4 := hb4.cell
    have hbN : bx ≠ w.heap.size := by omega
    have hbN' : w.heap.size ≠ bx := by omega
    go_region_held3 (fun W => W.cell? ⟨bx, 0, none⟩ = some (.pointer (some ⟨R, 0, none⟩))) (with_reducible (first | exact hc4 | exact hc5 | exact hc6 | exact hk6.1 _ | exact hk6.2 _ _)) (first | (go_at_call 28; first
      | (refine (number28 R S x hx _ _ hd4.out).mono ?_; rintro e w5 ⟨rfl, hd5, ht5⟩; have hb5 : Boxed w5 bx 59 _ := (ht5.block bx hb4.lt hne).trans hb4; have hc5 := hb5.cell; have hr5 := (ht5.block w.heap.size (Array.getElem?_eq_some_iff.1 hrow).1 (by omega)).trans hrow; have hd5 := Lib.hid hd5; have ht5 := Lib.hid ht5)
      | (refine (number28 R S 0 (by omega) ys _ hd5.out).mono ?_; rintro e w6 ⟨rfl, hd6, ht6⟩; have hb6 : Boxed w6 bx 59 _ := (ht6.block bx hb5.lt hne).trans hb5; have hc6 := hb6.cell; have hr6 := (ht6.block w.heap.size (Array.getElem?_eq_some_iff.1 hr5).1 (by omega)).trans hr5; have hd6 := Lib.hid hd6; have ht6 := Lib.hid ht6; have hf6 := unfrozen hr6; obtain ⟨n0, n1, n2, n3, n4⟩ := cells5' hr6; have hk6 : (∀ a, (w6.setCell ⟨w.heap.size, 3, none⟩ a).cell? ⟨bx, 0, none⟩ = some (.pointer (some ⟨R, 0, none⟩))) ∧ (∀ a b, ((w6.setCell ⟨w.heap.size, 3, none⟩ a).setCell ⟨w.heap.size, 4, none⟩ b).cell? ⟨bx, 0, none⟩ = some (.pointer (some ⟨R, 0, none⟩))) := ⟨fun a => Boxed.cell ((set1_other _ _ bx hbN 3 _).trans hb6), fun a b => Boxed.cell ((set1_other _ _ bx hbN 4 _).trans ((set1_other _ _ bx hbN 3 _).trans hb6))⟩)))
    have hrow7 : ((w6.setCell ⟨w.heap.size, 3, none⟩ (.int .i64 x)).setCell ⟨w.heap.size, 4, none⟩ (.int .i64 0)).heap[w.heap.size]? = some (.cells #[.string (One 112), .slice (some ⟨Z, 0, none⟩) s.size cap, .slice none 0 0, .int .i64 x, .int .i64 0] 31 (0, 0)) := by
      rw [setCell_heap (setCell_heap hr6 3 _)]; rfl
    have ho7 : ∀ k, k ≠ w.heap.size → ((w6.setCell ⟨w.heap.size, 3, none⟩ (.int .i64 x)).setCell ⟨w.heap.size, 4, none⟩ (.int .i64 0)).heap[k]? = w6.heap[k]? := fun k h => (set1_other _ _ k h 4 _).trans (set1_other _ _ k h 3 _)
    have T6 := T4.trans ((ht5.out.trans ht6.out).mono (fun _ _ h => .inl h))
    have T7 := Lib.hid (((T6.setCell (b := w.heap.size) (.inr rfl) 3 (.int .i64 x)).setCell (b := w.heap.size) (.inr rfl) 4 (.int .i64 0)).mono (S' := fun b => b = R) (fun k hk h => by rcases h with h | h; exact h; omega))
    have hd7 := Lib.hid (hd6.out.same (ho7 R (by omega)) (ho7 S (by omega)))
    have hda7 := Lib.hid (hda4.out.same fun hs0 => (ho7 Z (by omega)).trans (((ht5.out.trans ht6.out).block Z (hda4.out.lt hs0) (by omega))))
    clear ho7 hc4 hc5 hc6 hk6 hb4 hb5 hb6 hrow hr5 hr6 hf6 n0 n1 n2 n3 n4 hd4 hd5 hd6 ht5 ht6 T4 T6 hda4
    generalize (w6.setCell ⟨w.heap.size, 3, none⟩ (.int .i64 x)).setCell ⟨w.heap.size, 4, none⟩ (.int .i64 0) = w7 at hrow7 hd7 hda7 T7 ⊢
    have hf7 := unfrozen hrow7
    obtain ⟨n0, n1, n2, n3, n4⟩ := cells5' hrow7
    go_wp2_with fail
    refine bodyPost_ret (results_cell_row rfl _ _ w.heap.size 31 #[.string (One 112), .slice (some ⟨Z, 0, none⟩) s.size cap, .slice none 0 0, .int .i64 x, .int .i64 0] (0, 0) _ rfl (by rw [set5_row hrow7]) Tryz.underlying31 rfl (by kernel_rfl)) rfl ?_
    refine ⟨Z, cap, rfl, by omega, hda7.out.same fun _ => set5_heap _ _ _ (by omega) _ _ _ _ _, hd7.out.same (set5_heap _ _ _ (by omega) _ _ _ _ _) (set5_heap _ _ _ (by omega) _ _ _ _ _), ?_⟩
    exact (((((((T7.out.mono (S' := fun b => b = R ∨ b = w.heap.size) (fun _ _ h => .inl h)).setCell (b := w.heap.size) (.inr rfl) 0 _).setCell (b := w.heap.size) (.inr rfl) 1 _).setCell (b := w.heap.size) (.inr rfl) 2 _).setCell (b := w.heap.size) (.inr rfl) 3 _).setCell (b := w.heap.size) (.inr rfl) 4 _).mono (fun k hk h => by rcases h with h | h; exact h; omega))
end Go.Proofs.YtfhjffkcobmkaaaGreat
