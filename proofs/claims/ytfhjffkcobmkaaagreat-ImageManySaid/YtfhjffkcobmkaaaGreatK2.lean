/- The law itself, walked: it returns true at any three numbers. -/
import Derived.WalkKit
import Derived.Lib.Hide
import Derived.WalkLawsBesides
import Derived.WalkSpells
import Derived.BigQuiet
import Derived.Deep.QuietTactic
import Derived.Handy
import Derived.RangeFuncBox
import Derived.Shelf.Abstract
import Derived.Deep.RegionWith
import Derived.Deep.RegionHeld3
import Derived.StillTailTactics
import Derived.Lib.AppendStr
import Derived.RangeFuncNested
import Derived.RangeFuncBound
import Derived.RangeFuncCalls
import Derived.RangeFuncLeaves
import Derived.Shelf.AbstractIn
import Derived.Shelf.RegionOpen
import Derived.OwnWalkIn
import Derived.TacticsInMore
import Derived.LoopNIn
import Derived.LoopIn
import Derived.LaidEqlPtr
import Derived.Lib.Builder
import Derived.Lib.ConvBytes
import Derived.Maps.AppendAt
import Derived.Deep.DeepCutAuto
import Derived.Defers
import Derived.Recover
import Derived.Lib.SlBytesConst
import Derived.Test.YtfhjffkcobmkaaaGreatK1
set_option linter.unusedVariables false
set_option linter.unusedSimpArgs false
namespace Go.Proofs.YtfhjffkcobmkaaaGreat
open Go.RowKit
set_option maxHeartbeats 2000000 in
set_option maxRecDepth 100000 in
theorem many3 (a b c : Int) (w : World) : Calls Tryz.prog 3 #[.int .i64 a, .int .i64 b, .int .i64 c] w fun e w' => e = .returned (.bool true) ∧ Below w.heap.size w w' := by
  obtain ⟨na, hna, la⟩ := count_of a
  obtain ⟨nb, hnb, lb⟩ := count_of b
  obtain ⟨nc, hnc, lc⟩ := count_of c
  go_enter Tryz.func3, Tryz.ntmps3
  go_wp2_with fail
  refine (shown4 _).mono ?_
  rintro e w1 ⟨rfl, hb1⟩
  have HB1 := Lib.hid hb1
  have hx1 := Lib.hid (heap_new w1 (.cells #[.slice none 0 0, .slice none 0 0, .slice none 0 0] 27) _ rfl)
  have HBx := Lib.hid (hb1.alloc hb1.size (.cells #[.slice none 0 0, .slice none 0 0, .slice none 0 0] 27))
  have hz1 := Lib.hid (show (w1.alloc (.cells #[.slice none 0 0, .slice none 0 0, .slice none 0 0] 27)).heap.size = w1.heap.size + 1 by simp)
  clear hb1
  go_wp2_with fail
  clear hna hnb hnc
  generalize w1.alloc (.cells #[.slice none 0 0, .slice none 0 0, .slice none 0 0] 27) = wx at hx1 HBx hz1 ⊢
  go_loopw [9] (fun i wr => ∃ (k : Nat) (a0 : Option Addr) (q0 : Nat), k ≤ na ∧ i = .int .i64 k ∧ Grow wx w1.heap.size 31 5 progSrc (.slice a0 k q0) k (.slice a0 k q0) (.slice none 0 0) (.slice none 0 0) wr) (fun i _ => na - (intOf i).toNat)
  case atStart => exact ⟨0, none, 0, by omega, rfl, ⟨World.ownsRow_nil _ _ _ _, hx1.out, Turns.refl _ _⟩⟩
  case round =>
    obtain ⟨k, a0, q0, hk, rfl, hst⟩ := hrel
    by_cases hlt : k < na
    · have HST := Lib.hid hst
      have hX := hst.box
      obtain ⟨n0, n1, n2⟩ := cells3 hX
      have hlX := (Array.getElem?_eq_some_iff.1 hX).1
      have hf := unfrozen hX
      have hws := hst.turns.size
      have HZ := hz1.out
      have hXl : w1.heap.size < wx.heap.size := by omega
      clear hX hst
      obtain ⟨i0, hi, hz0, hz5, hz2⟩ := info_parts Tryz.info31
      go_wp2_with (at_builtin; refine wpList_append_own _ rfl _ _ 23 rfl wx.heap.size 31 i0 (.agg #[.string ⟨#[]⟩, .slice none 0 0, .slice none 0 0, .int .i64 0, .int .i64 0]) 5 80 Tryz.underlying23 hi hz0 hz5 hz2 rfl (by decide) _ _ _ rfl (HST.out.own.alloc _) ⟨wr.heap.size, 0, none⟩ 1 1 [.string ⟨#[112]⟩, .slice none 0 0, .slice none 0 0, .int .i64 k, .int .i64 0] rfl rfl ?c1 ?c2 ?c3 ?c4 ?c5 ?_; rotate_right; intro v' w3 hown' hgrow _; obtain ⟨a1, q1, rfl⟩ := ownsRow_form hown'; have hX3 := HST.out.mid hXl hgrow; obtain ⟨m0, m1, m2⟩ := cells3 hX3; have hf3 := unfrozen hX3)
      case c1 => exact fun j u hj => cells_new wr _ 31 j u (by simpa using hj)
      case c2 => intro u hu; simp at hu; rcases hu with rfl | rfl | rfl | rfl <;> rfl
      case c3 => unfold maxLen; omega
      case c4 => omega
      case c5 => simp; omega
      refine ⟨⟨k + 1, a1, q1, by omega, by go_num, HST.out.step hXl hgrow hown' 0 _ _ _ rfl⟩, by simp [intOf]; omega⟩
    · obtain rfl : na = k := by omega
      obtain ⟨w2, rfl⟩ : ∃ w2 : World, w2 = wr := ⟨_, rfl⟩
      have hX2 := hst.box
      have hlX2 : w1.heap.size < w2.heap.size := (Array.getElem?_eq_some_iff.1 hX2).1
      have hb2 : Below w.heap.size w w2 := HBx.out.trans ⟨hst.turns.os, hst.turns.tape, hst.turns.output, hst.turns.size, fun j hj => hst.turns.block j (by have := HBx.out.size; omega) (fun e => by have := HB1.out.size; omega)⟩
      have O0 := Lib.hid hst.own
      have HX2 := Lib.hid hX2
      have HB2 := Lib.hid hb2
      clear hst hX2 hb2 hx1
      go_wp2_with fail
      go_loopw [10] (fun i wr => ∃ (k : Nat) (a1 : Option Addr) (q1 : Nat), k ≤ nb ∧ i = .int .i64 k ∧ Grow w2 w1.heap.size 35 6 mapSrc (.slice a1 k q1) k (.slice a0 na q0) (.slice a1 k q1) (.slice none 0 0) wr) (fun i _ => nb - (intOf i).toNat)
      case atStart => exact ⟨0, none, 0, by omega, rfl, ⟨World.ownsRow_nil _ _ _ _, HX2.out, Turns.refl _ _⟩⟩
      case round =>
        obtain ⟨k, a1, q1, hk, rfl, hst⟩ := hrel
        by_cases hlt : k < nb
        · have HST := Lib.hid hst
          have hX := hst.box
          obtain ⟨n0, n1, n2⟩ := cells3 hX
          have hlX := (Array.getElem?_eq_some_iff.1 hX).1
          have hf := unfrozen hX
          have hws := hst.turns.size
          clear hX hst
          obtain ⟨i0, hi, hz0, hz5, hz2⟩ := info_parts Tryz.info35
          go_wp2_with (at_builtin; refine wpList_append_own _ rfl _ _ 24 rfl w2.heap.size 35 i0 (.agg #[.string ⟨#[]⟩, .int .i64 0, .int .i64 0, .int .i64 0, .int .i64 0, .slice none 0 0]) 6 72 Tryz.underlying24 hi hz0 hz5 hz2 rfl (by decide) _ _ _ rfl (HST.out.own.alloc _) ⟨wr.heap.size, 0, none⟩ 1 1 [.string ⟨#[109]⟩, .int .i64 2, .int .i64 1, .int .i64 1, .int .i64 (1 + k), .slice none 0 0] rfl rfl ?c1 ?c2 ?c3 ?c4 ?c5 ?_; rotate_right; intro v' w3 hown' hgrow _; obtain ⟨a2, q2, rfl⟩ := ownsRow_form hown'; have hX3 := HST.out.mid hlX2 hgrow; obtain ⟨m0, m1, m2⟩ := cells3 hX3; have hf3 := unfrozen hX3)
          case c1 => exact fun j u hj => cells_new wr _ 35 j u (by simpa using hj)
          case c2 => intro u hu; simp at hu; rcases hu with rfl | rfl | rfl | rfl | rfl <;> rfl
          case c3 => unfold maxLen; omega
          case c4 => omega
          case c5 => simp; omega
          refine ⟨⟨k + 1, a2, q2, by omega, by go_num, HST.out.step hlX2 hgrow hown' 1 _ _ _ rfl⟩, by simp [intOf]; omega⟩
        · obtain rfl : nb = k := by omega
          obtain ⟨w3, rfl⟩ : ∃ w3 : World, w3 = wr := ⟨_, rfl⟩
          have hX3 := hst.box
          have hlX3 : w1.heap.size < w3.heap.size := (Array.getElem?_eq_some_iff.1 hX3).1
          have hb3 : Below w.heap.size w w3 := HB2.out.trans ⟨hst.turns.os, hst.turns.tape, hst.turns.output, hst.turns.size, fun j hj => hst.turns.block j (by have := HB2.out.size; omega) (fun e => by have := HB1.out.size; omega)⟩
          have P0 := Lib.hid (ownsRow_turned O0.out hst.turns (fun k hk e => by have := hz1.out; omega))
          have O1 := Lib.hid hst.own
          have HX3 := Lib.hid hX3
          have HB3 := Lib.hid hb3
          have hz23 := Lib.hid hst.turns.size
          clear hst hX3 hb3
          go_wp2_with fail
          go_loopw [11] (fun i wr => ∃ (k : Nat) (a2 : Option Addr) (q2 : Nat), k ≤ nc ∧ i = .int .i64 k ∧ Grow w3 w1.heap.size 37 3 linkSrc (.slice a2 k q2) k (.slice a0 na q0) (.slice a1 nb q1) (.slice a2 k q2) wr) (fun i _ => nc - (intOf i).toNat)
          case atStart => exact ⟨0, none, 0, by omega, rfl, ⟨World.ownsRow_nil _ _ _ _, HX3.out, Turns.refl _ _⟩⟩
          case round =>
            obtain ⟨k, a2, q2, hk, rfl, hst⟩ := hrel
            by_cases hlt : k < nc
            · have HST := Lib.hid hst
              have hX := hst.box
              obtain ⟨n0, n1, n2⟩ := cells3 hX
              have hlX := (Array.getElem?_eq_some_iff.1 hX).1
              have hf := unfrozen hX
              have hws := hst.turns.size
              clear hX hst
              obtain ⟨i0, hi, hz0, hz5, hz2⟩ := info_parts Tryz.info37
              go_wp2_with (at_builtin; refine wpList_append_own _ rfl _ _ 25 rfl w3.heap.size 37 i0 (.agg #[.string ⟨#[]⟩, .string ⟨#[]⟩, .int .i64 0]) 3 40 Tryz.underlying25 hi hz0 hz5 hz2 rfl (by decide) _ _ _ rfl (HST.out.own.alloc _) ⟨wr.heap.size, 0, none⟩ 1 1 [.string ⟨#[108]⟩, .string ⟨#[112]⟩, .int .i64 k] rfl rfl ?c1 ?c2 ?c3 ?c4 ?c5 ?_; rotate_right; intro v' w4 hown' hgrow _; obtain ⟨a3, q3, rfl⟩ := ownsRow_form hown'; have hX4 := HST.out.mid hlX3 hgrow; obtain ⟨m0, m1, m2⟩ := cells3 hX4; have hf4 := unfrozen hX4)
              case c1 => exact fun j u hj => cells_new wr _ 37 j u (by simpa using hj)
              case c2 => intro u hu; simp at hu; rcases hu with rfl | rfl | rfl <;> rfl
              case c3 => unfold maxLen; omega
              case c4 => omega
              case c5 => simp; omega
              refine ⟨⟨k + 1, a3, q3, by omega, by go_num, HST.out.step hlX3 hgrow hown' 2 _ _ _ rfl⟩, by simp [intOf]; omega⟩
            · obtain rfl : nc = k := by omega
              obtain ⟨w4, rfl⟩ : ∃ w4 : World, w4 = wr := ⟨_, rfl⟩
              have hX4 := hst.box
              have hlX4 : w1.heap.size < w4.heap.size := (Array.getElem?_eq_some_iff.1 hX4).1
              have hb4 : Below w.heap.size w w4 := HB3.out.trans ⟨hst.turns.os, hst.turns.tape, hst.turns.output, hst.turns.size, fun j hj => hst.turns.block j (by have := HB3.out.size; omega) (fun e => by have := HB1.out.size; omega)⟩
              have Q0 := ownsRow_turned P0.out hst.turns (fun k hk e => by have := hz1.out; omega)
              have Q1 := ownsRow_turned O1.out hst.turns (fun k hk e => by omega)
              have hsrc := many_src na nb nc q0 q1 q2 _ _ _ a0 a1 a2 w4 (by omega) (by omega) (by omega) Q0 Q1 hst.own
              have HS := Lib.hid hsrc
              have HX4 := Lib.hid hX4
              have HB4 := Lib.hid hb4
              obtain ⟨n0, n1, n2⟩ := cells3 hX4
              clear hst hX4 hb4 hsrc Q0 Q1 P0 O0 O1 HX2 HX3 HB2 HB3 hz23
              obtain ⟨R, hR⟩ : ∃ R : Bool, R = (Many na nb nc).right := ⟨_, rfl⟩
              have HR := Lib.hid hR
              clear hR
              go_upto_region 18 with fail
              go_cut [12] (fun s12 wx => s12 = .bool R ∧ wx = w4)
              case first =>
                go_wp2_with fail
                · go_meet
                  case rel =>
                    have h : (if na < nb then (nb : Int) else na) < nc := by assumption
                    exact ⟨congrArg Value.bool (right_eq na nb nc R HR.out _ (by split at h <;> omega)), rfl⟩
                · go_meet
                  case rel =>
                    have h : (nc : Int) ≤ if na < nb then (nb : Int) else na := by assumption
                    have h2 : na < nb := by assumption
                    exact ⟨congrArg Value.bool (right_eq na nb nc R HR.out _ (by split at h <;> omega)), rfl⟩
                · go_meet
                  case rel =>
                    have h : (nc : Int) ≤ if na < nb then (nb : Int) else na := by assumption
                    have h2 : ¬ na < nb := by assumption
                    exact ⟨congrArg Value.bool (right_eq na nb nc R HR.out _ (by split at h <;> omega)), rfl⟩
              case rest =>
                obtain ⟨rfl, hwc⟩ := hcut
                obtain rfl : w4 = wc := hwc.symm
                cases R with
                | false =>
                  have hlX4' := Lib.hid hlX4
                  go_wp2_with fail
                  refine (encode5no (Many na nb nc) ⟨by show na ≤ 100; omega, by show nb ≤ 100; omega, by show nc ≤ 100; omega, fun j hj => by have h : j < na := hj; show j ≤ 256; omega, fun j hj => by show 2 ≤ 4096; omega, fun j hj => by have h : j < nb := hj; show 1 + j ≤ 4096; omega, fun j hj => by show 0 ≤ 100; omega, fun j hj => by have h : j < nc := hj; show j ≤ 1000; omega⟩ HR.out.symm _ _ _ _ q0 q1 q2 a0 a1 a2 w4 HS.out).mono ?_
                  rintro e w5 ⟨rfl, hb5⟩
                  have hX5 := (hb5.block _ hlX4).trans HX4.out
                  have hs := HS.out
                  have HB5 := Lib.hid hb5
                  obtain ⟨n0, n1, n2⟩ := cells3 hX5
                  have HR6 := Lib.hid (right6 _ _ _ _ q0 q1 q2 a0 a1 a2 w5 (hs.img.later hb5) (hs.fine.later hb5) hs.h0 hs.h1 hs.h2 (by show na ≤ 1000; omega) (by show nb ≤ 1000; omega) (by show nc ≤ 1000; omega))
                  clear hb5 hX5 hs
                  go_wp2_with fail
                  refine HR6.out.mono ?_
                  rintro e w6 ⟨rfl, hb6⟩
                  have hR2 : (decide ((na : Int) ≤ 64) && decide ((nb : Int) ≤ 64) && decide ((nc : Int) ≤ 64)) = false := HR.out.symm
                  rw [show (decide ((((Many na nb nc).desc (fun _ => .slice none 0 0) (fun _ => .slice none 0 0)).np : Int) ≤ 64) && decide ((((Many na nb nc).desc (fun _ => .slice none 0 0) (fun _ => .slice none 0 0)).nm : Int) ≤ 64) && decide ((((Many na nb nc).desc (fun _ => .slice none 0 0) (fun _ => .slice none 0 0)).nl : Int) ≤ 64)) = false from hR2]
                  have hfin := Lib.hid (HB4.out.trans ((HB5.out.trans (hb6.mono HB5.out.size)).mono HB4.out.size))
                  clear hR2 hb6 HR6 n0 n1 n2
                  go_wp2_with fail
                  go_ret
                  exact ⟨rfl, hfin.out⟩
                | true =>
                  go_wp2_with fail
                  refine (encMany na nb nc HR.out _ _ _ q0 q1 q2 a0 a1 a2 w4 HS.out).mono ?_
                  rintro e w5 ⟨d, L, dq, rfl, hL, ho5, hb5⟩
                  have hX5 := (hb5.block _ hlX4).trans HX4.out
                  have hs := HS.out
                  have HB5 := Lib.hid hb5
                  have HO5 := Lib.hid ho5
                  have HL := Lib.hid hL
                  obtain ⟨n0, n1, n2⟩ := cells3 hX5
                  have HR6 := Lib.hid (right6 _ _ _ _ q0 q1 q2 a0 a1 a2 w5 (hs.img.later hb5) (hs.fine.later hb5) hs.h0 hs.h1 hs.h2 (by show na ≤ 1000; omega) (by show nb ≤ 1000; omega) (by show nc ≤ 1000; omega))
                  clear hb5 hX5 hs ho5 hL
                  go_wp2_with fail
                  refine HR6.out.mono ?_
                  rintro e w6 ⟨rfl, hb6⟩
                  have hR2 : (decide ((na : Int) ≤ 64) && decide ((nb : Int) ≤ 64) && decide ((nc : Int) ≤ 64)) = true := HR.out.symm
                  rw [show (decide ((((Many na nb nc).desc (fun _ => .slice none 0 0) (fun _ => .slice none 0 0)).np : Int) ≤ 64) && decide ((((Many na nb nc).desc (fun _ => .slice none 0 0) (fun _ => .slice none 0 0)).nm : Int) ≤ 64) && decide ((((Many na nb nc).desc (fun _ => .slice none 0 0) (fun _ => .slice none 0 0)).nl : Int) ≤ 64)) = true from hR2]
                  have HO6 := Lib.hid (ownsRow_turned HO5.out (Turns.of_below (S := fun _ => False) hb6) (fun k _ e => e))
                  have HB6 := Lib.hid (HB4.out.trans ((HB5.out.trans (hb6.mono HB5.out.size)).mono HB4.out.size))
                  clear hR2 hb6 HR6 n0 n1 n2
                  go_wp2_with fail
                  refine (decMany na nb nc HR.out d L dq w4.heap.size HL.out w6 HO6.out).mono ?_
                  rintro e w7 ⟨b0, r0, b1, r1, b2, r2, rfl, hm, hl, hb7⟩
                  have HB7 := Lib.hid (HB6.out.trans (hb7.mono HB6.out.size))
                  have HM := Lib.hid hm
                  have HL2 := Lib.hid hl
                  clear hb7 hm hl
                  by_cases hc0 : nc = 0
                  · have ec : ((nc : Int) == 0) = true := by simp [hc0]
                    by_cases hb0 : nb = 0
                    · have eb : ((nb : Int) == 0) = true := by simp [hb0]
                      clear hc0 hb0
                      go_wp2_with fail
                      go_ret
                      exact ⟨rfl, HB7.out.alloc HB7.out.size _⟩
                    · obtain ⟨g1, rfl, hg1, hj2, hj3⟩ := HM.out (nb - 1) (by omega)
                      have eb : ((nb : Int) == 0) = false := by simp [hb0]
                      have l1 : (1 : Int) ≤ nb := by omega
                      have v1 : (w7.alloc (.cells #[.slice b0 na r0, .slice (some ⟨g1, 0, none⟩) nb r1, .slice b2 nc r2] 27)).cell? ⟨g1, (nb - 1) * 6 + 4, none⟩ = some (.int .i64 nb) := by
                        rw [keepc ((Below.refl _ _).alloc (Nat.le_refl _) _) hg1]
                        exact congrArg (fun x => some (Value.int .i64 x)) (by omega)
                      clear hc0 hb0 hg1
                      go_wp2_with fail
                      go_ret
                      exact ⟨rfl, HB7.out.alloc HB7.out.size _⟩
                  · obtain ⟨g2, rfl, hg2, hk2, hk3⟩ := HL2.out (nc - 1) (by omega)
                    have ec : ((nc : Int) == 0) = false := by simp [hc0]
                    have l2 : (1 : Int) ≤ nc := by omega
                    by_cases hb0 : nb = 0
                    · have eb : ((nb : Int) == 0) = true := by simp [hb0]
                      have v2 : (w7.alloc (.cells #[.slice b0 na r0, .slice b1 nb r1, .slice (some ⟨g2, 0, none⟩) nc r2] 27)).cell? ⟨g2, (nc - 1) * 3 + 2, none⟩ = some (.int .i64 (nc - 1)) := by
                        rw [keepc ((Below.refl _ _).alloc (Nat.le_refl _) _) hg2]
                        exact congrArg (fun x => some (Value.int .i64 x)) (by omega)
                      clear hc0 hb0 hg2
                      go_wp2_with fail
                      go_ret
                      exact ⟨rfl, HB7.out.alloc HB7.out.size _⟩
                    · obtain ⟨g1, rfl, hg1, hj2, hj3⟩ := HM.out (nb - 1) (by omega)
                      have eb : ((nb : Int) == 0) = false := by simp [hb0]
                      have l1 : (1 : Int) ≤ nb := by omega
                      have v1 : (w7.alloc (.cells #[.slice b0 na r0, .slice (some ⟨g1, 0, none⟩) nb r1, .slice (some ⟨g2, 0, none⟩) nc r2] 27)).cell? ⟨g1, (nb - 1) * 6 + 4, none⟩ = some (.int .i64 nb) := by
                        rw [keepc ((Below.refl _ _).alloc (Nat.le_refl _) _) hg1]
                        exact congrArg (fun x => some (Value.int .i64 x)) (by omega)
                      have v2 : (w7.alloc (.cells #[.slice b0 na r0, .slice (some ⟨g1, 0, none⟩) nb r1, .slice (some ⟨g2, 0, none⟩) nc r2] 27)).cell? ⟨g2, (nc - 1) * 3 + 2, none⟩ = some (.int .i64 (nc - 1)) := by
                        rw [keepc ((Below.refl _ _).alloc (Nat.le_refl _) _) hg2]
                        exact congrArg (fun x => some (Value.int .i64 x)) (by omega)
                      clear hc0 hb0 hg1 hg2
                      go_wp2_with fail
                      go_ret
                      exact ⟨rfl, HB7.out.alloc HB7.out.size _⟩
end Go.Proofs.YtfhjffkcobmkaaaGreat
