/- The reader: take, number, text. -/
import Derived.WalkKit
import Derived.Lib.Hide
import Derived.WalkLawsBesides
import Derived.WalkSpells
import Derived.BigQuiet
import Derived.Deep.QuietTactic
import Derived.Handy
import Derived.RangeFuncBox
import Derived.Shelf.Abstract
import Derived.Deep.RegionWith
import Derived.Deep.RegionHeld3
import Derived.StillTailTactics
import Derived.Lib.AppendStr
import Derived.RangeFuncNested
import Derived.RangeFuncBound
import Derived.RangeFuncCalls
import Derived.RangeFuncLeaves
import Derived.Shelf.AbstractIn
import Derived.Shelf.RegionOpen
import Derived.OwnWalkIn
import Derived.TacticsInMore
import Derived.LoopNIn
import Derived.LoopIn
import Derived.LaidEqlPtr
import Derived.Lib.Builder
import Derived.Test.YtfhjffkcobmkaaaGreatD5
set_option linter.unusedVariables false
set_option linter.unusedSimpArgs false
namespace Go.Proofs.YtfhjffkcobmkaaaGreat
open Go.RowKit
/-- the reader R has the bytes rest ahead of it -/
structure RdAt (w : World) (R S off cap : Nat) (rest : List UInt8) : Prop where
  h : w.heap[R]? = some (.cells #[.slice (some ⟨S, off, none⟩) rest.length cap] 60 (0, 0))
  c1 : rest.length ≤ cap
  c2 : cap ≤ maxLen
  ne : S ≠ R
  cells : ∀ j u, (rest.map u8)[j]? = some u → w.cell? ⟨S, off + j, none⟩ = some u
def Rd (w : World) (R S : Nat) (rest : List UInt8) : Prop := ∃ off cap, RdAt w R S off cap rest
theorem take48 (R S : Nat) (xs ys : List UInt8) (w : World) (hr : Rd w R S (xs ++ ys)) (n : Int) (hn : n = xs.length) :
    Calls Tryz.prog 48 #[.pointer (some ⟨R, 0, none⟩), .int .i64 n] w fun e w' => ∃ off cap, e = .returned (.slice (some ⟨S, off, none⟩) xs.length cap) ∧ (∀ j u, (xs.map u8)[j]? = some u → w'.cell? ⟨S, off + j, none⟩ = some u) ∧ xs.length ≤ cap ∧ cap ≤ maxLen ∧ Rd w' R S ys ∧ Turns (fun b => b = R) w w' := by
  obtain ⟨off, cap, hr⟩ := hr
  have hc : w.cell? ⟨R, 0, none⟩ = some (.slice (some ⟨S, off, none⟩) (xs ++ ys).length cap) := by simp [World.cell?, hr.h]
  have hf : w.frozen? ⟨R, 0, none⟩ = false := unfrozen hr.h _
  have hlen : (xs ++ ys).length = xs.length + ys.length := by simp
  have k1 := hr.c1
  have k2 := hr.c2
  rw [hlen] at hc k1
  have hd : decide ((xs.length : Int) + ys.length < xs.length) = false := by simp; omega
  have hx : ∀ a, ∀ j u, (xs.map u8)[j]? = some u → (w.setCell ⟨R, 0, none⟩ a).cell? ⟨S, off + j, none⟩ = some u := fun a j u hj => by
    have h1 := hr.cells j u (by rw [List.map_append, List.getElem?_append_left (List.getElem?_eq_some_iff.1 hj).1]; exact hj)
    rw [← h1]
    exact World.cell?_of_block (Below.heap_setCell _ _ _ _ hr.ne)
  have hT : ∀ a, Turns (fun b => b = R) w (w.setCell ⟨R, 0, none⟩ a) := fun a => (Turns.refl (fun b => b = R) w).setCell (b := R) rfl 0 a
  have hB : ∀ a, (w.setCell ⟨R, 0, none⟩ a).heap[R]? = some (.cells #[a] 60 (0, 0)) := fun a => Boxed.set a (show Boxed w R 60 _ from hr.h)
  have hy : ∀ a, ∀ j u, (ys.map u8)[j]? = some u → (w.setCell ⟨R, 0, none⟩ a).cell? ⟨S, off + xs.length + j, none⟩ = some u := fun a j u hj => by
    have h1 := hr.cells (xs.length + j) u (by rw [List.map_append, List.getElem?_append_right (by simp)]; simpa using hj)
    rw [Nat.add_assoc, ← h1]
    exact World.cell?_of_block (Below.heap_setCell _ _ _ _ hr.ne)
  have hne := hr.ne
  have HX := Lib.hid hx
  have HY := Lib.hid hy
  have HT := Lib.hid hT
  have HB := Lib.hid hB
  clear hx hy hT hB hr
  subst hn
  by_cases hcp : cap = xs.length
  · have hy0 : ys = [] := List.eq_nil_of_length_eq_zero (by omega)
    subst hy0 hcp
    go_enter Tryz.func48, Tryz.ntmps48
    go_wp2_with fail
    go_ret
    exact ⟨off, xs.length, rfl, HX.out _, Nat.le_refl _, k2, ⟨off, 0, HB.out _, by simp, by omega, hne, fun j u hj => by simp at hj⟩, HT.out _⟩
  · go_enter Tryz.func48, Tryz.ntmps48
    go_wp2_with fail
    go_ret
    exact ⟨off, cap, rfl, HX.out _, by omega, k2, ⟨off + xs.length, cap - xs.length, HB.out _, by omega, by omega, hne, HY.out _⟩, HT.out _⟩
theorem num_law : ∀ (p : Fin 17) (q : Fin 256), bits .or .i64 (wrap64 (bits .or .i64 (wrap64 (bits .or .i64 (wrap64 (bits .or .i64 0 0 * 256)) 0 * 256)) (p.val : Int) * 256)) (q.val : Int) = (p.val : Int) * 256 + (q.val : Int) := by decide +kernel
/-- four bytes taken for a number -/
theorem number28 (R S : Nat) (x : Nat) (hx : x ≤ 4096) (ys : List UInt8) (w : World) (hr : Rd w R S (be4 x ++ ys)) :
    Calls Tryz.prog 28 #[.pointer (some ⟨R, 0, none⟩)] w fun e w' => e = .returned (.int .i64 x) ∧ Rd w' R S ys ∧ Turns (fun b => b = R) w w' := by
  have ht := Lib.hid (take48 R S (be4 x) ys w hr 4 rfl)
  clear hr
  go_enter Tryz.func28, Tryz.ntmps28
  go_wp2_with fail
  refine ht.out.mono ?_
  rintro e w1 ⟨off, cap, rfl, hc, hl, hm, hr1, ht1⟩
  have e0 : u8 (UInt8.ofNat (x / 16777216)) = .int .u8 0 := by rw [show x / 16777216 = 0 by omega]; rfl
  have e1 : u8 (UInt8.ofNat (x / 65536)) = .int .u8 0 := by rw [show x / 65536 = 0 by omega]; rfl
  have e2 : u8 (UInt8.ofNat (x / 256)) = .int .u8 ((x / 256 : Nat) : Int) := by simp only [u8]; rw [show (UInt8.ofNat (x / 256)).toNat = x / 256 by simp; omega]
  have e3 : u8 (UInt8.ofNat x) = .int .u8 ((x % 256 : Nat) : Int) := by simp only [u8]; rw [show (UInt8.ofNat x).toNat = x % 256 by simp]
  have y0 : w1.cell? ⟨S, off, none⟩ = some (.int .u8 0) := by have := hc 0 (u8 (UInt8.ofNat (x / 16777216))) rfl; rw [e0] at this; exact this
  have y1 : w1.cell? ⟨S, off + 1, none⟩ = some (.int .u8 0) := by have := hc 1 (u8 (UInt8.ofNat (x / 65536))) rfl; rw [e1] at this; exact this
  have y2 : w1.cell? ⟨S, off + 2, none⟩ = some (.int .u8 ((x / 256 : Nat) : Int)) := by have := hc 2 (u8 (UInt8.ofNat (x / 256))) rfl; rw [e2] at this; exact this
  have y3 : w1.cell? ⟨S, off + 3, none⟩ = some (.int .u8 ((x % 256 : Nat) : Int)) := by have := hc 3 (u8 (UInt8.ofNat x)) rfl; rw [e3] at this; exact this
  have hl4 : (be4 (x : Int)).length = 4 := rfl
  clear hc e0 e1 e2 e3 ht
  have ht1 := Lib.hid ht1
  have hr1 := Lib.hid hr1
  have b2 : x / 256 ≤ 16 := by omega
  have b3 : x % 256 < 256 := by omega
  have hfin : ((x / 256 : Nat) : Int) * 256 + ((x % 256 : Nat) : Int) = x := by omega
  have hfin := Lib.hid hfin
  generalize x / 256 = p at y2 b2 hfin
  generalize x % 256 = q at y3 b3 hfin
  go_wp2_with fail
  refine wp_loop_rounds 5 ?_
  rw [rounds_succ]
  go_wp2_with fail
  rw [rounds_succ]
  go_wp2_with fail
  rw [rounds_succ]
  go_wp2_with fail
  rw [rounds_succ]
  go_wp2_with fail
  rw [rounds_succ]
  go_wp2_with fail
  go_ret
  have hn := num_law ⟨p, by omega⟩ ⟨q, b3⟩
  exact ⟨by simp [hn, hfin.out], hr1.out, ht1.out⟩
theorem text31 (R S : Nat) (s : ByteArray) (hs : s.size ≤ 4096) (ys : List UInt8) (w : World) (hr : Rd w R S (tx s ++ ys)) :
    Calls Tryz.prog 31 #[.pointer (some ⟨R, 0, none⟩)] w fun e w' => e = .returned (.string s) ∧ Rd w' R S ys ∧ Turns (fun b => b = R) w w' := by
  have ht := Lib.hid (number28 R S s.size hs (s.data.toList ++ ys) w (by simpa [tx, bes] using hr))
  clear hr
  go_enter Tryz.func31, Tryz.ntmps31
  go_wp2_with fail
  refine ht.out.mono ?_
  rintro e w1 ⟨rfl, hr1, ht1⟩
  have hk := Lib.hid (take48 R S s.data.toList ys w1 hr1 s.size (by rw [Array.length_toList]; rfl))
  clear hr1
  go_wp2_with fail
  refine hk.out.mono ?_
  rintro e w2 ⟨off, cap, rfl, hc, _, _, hr2, ht2⟩
  have hv : (convert 28 9 (.slice (some ⟨S, off, none⟩) s.data.toList.length cap)).run Tryz.prog w2 = .ok (.string s) w2 := conv_row S cap s.data.toList w2 off s.data.toList.length rfl hc
  generalize s.data.toList.length = n at hv ⊢
  have hT := Lib.hid (ht1.trans ht2)
  have hr2 := Lib.hid hr2
  clear ht hk ht1 ht2 hc
  go_wp2_with fail
  go_ret
  exact ⟨by simp, hr2.out, hT.out⟩
end Go.Proofs.YtfhjffkcobmkaaaGreat
