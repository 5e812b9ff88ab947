/- The rows of an image read: links, dumps, programs; no names. -/
import Derived.WalkKit
import Derived.Lib.Hide
import Derived.WalkLawsBesides
import Derived.WalkSpells
import Derived.BigQuiet
import Derived.Deep.QuietTactic
import Derived.Handy
import Derived.RangeFuncBox
import Derived.Shelf.Abstract
import Derived.Deep.RegionWith
import Derived.Deep.RegionHeld3
import Derived.StillTailTactics
import Derived.Lib.AppendStr
import Derived.RangeFuncNested
import Derived.RangeFuncBound
import Derived.RangeFuncCalls
import Derived.RangeFuncLeaves
import Derived.Shelf.AbstractIn
import Derived.Shelf.RegionOpen
import Derived.OwnWalkIn
import Derived.TacticsInMore
import Derived.LoopNIn
import Derived.LoopIn
import Derived.LaidEqlPtr
import Derived.Lib.Builder
import Derived.Lib.ConvBytes
import Derived.Maps.AppendAt
import Derived.Test.YtfhjffkcobmkaaaGreatF1
set_option linter.unusedVariables false
set_option linter.unusedSimpArgs false
namespace Go.Proofs.YtfhjffkcobmkaaaGreat
open Go.RowKit
set_option maxHeartbeats 400000 in
theorem rows32none (R S : Nat) (f : Value) (ys : List UInt8) (w : World) (hr : Rd w R S (be4 (0 : Nat) ++ ys)) :
    Calls Tryz.prog 32 #[.pointer (some ⟨R, 0, none⟩), f] w fun e w' => e = .returned (.slice none 0 0) ∧ Rd w' R S ys ∧ Turns (fun b => b = R) w w' := by
  have HN := Lib.hid (number28 R S 0 (by omega) ys w hr)
  clear hr
  go_enter Tryz.func32, Tryz.ntmps32
  go_wp2_with fail
  refine HN.out.mono ?_
  rintro e w1 ⟨rfl, hr1, ht1⟩
  have hr1 := Lib.hid hr1
  have ht1 := Lib.hid ht1
  go_wp2_with fail
  refine wp_loop_rounds 1 ?_
  rw [rounds_succ]
  go_wp2_with fail
  go_ret
  exact ⟨rfl, hr1.out, ht1.out⟩
theorem Tryz.info31 : (Tryz.prog.info? 31).map (fun i => (i.zero, i.size, i.bytes)) = some (some (.agg #[.string ⟨#[]⟩, .slice none 0 0, .slice none 0 0, .int .i64 0, .int .i64 0]), 5, 80) := by kernel_rfl
theorem Tryz.info35 : (Tryz.prog.info? 35).map (fun i => (i.zero, i.size, i.bytes)) = some (some (.agg #[.string ⟨#[]⟩, .int .i64 0, .int .i64 0, .int .i64 0, .int .i64 0, .slice none 0 0]), 6, 72) := by kernel_rfl
theorem Tryz.info37 : (Tryz.prog.info? 37).map (fun i => (i.zero, i.size, i.bytes)) = some (some (.agg #[.string ⟨#[]⟩, .string ⟨#[]⟩, .int .i64 0]), 3, 40) := by kernel_rfl
def linkRow (ver : Nat → Nat) (j _Z _c : Nat) : List Value := [.string (One 108), .string (One 112), .int .i64 (ver j)]
set_option maxHeartbeats 1000000 in
theorem rows35 (R S bx n : Nat) (hn : n ≤ 64) (ver : Nat → Nat) (sf : Nat → ByteArray) (bs : Nat → List UInt8) (ys : List UInt8) (w : World) (hR : R < w.heap.size) (hS : S < w.heap.size)
    (hr : Rd w R S (be4 n ++ (flat bs 0 n ++ ys)))
    (hone : ∀ j, j < n → ∀ W zs, Turns (fun b => b = R) w W → Rd W R S (bs j ++ zs) → Calls Tryz.prog 36 #[.pointer (some ⟨bx, 0, none⟩)] W fun e W' => ∃ Z cap, e = .returned (.agg (linkRow ver j Z cap).toArray) ∧ (0 < (sf j).size → W.heap.size ≤ Z) ∧ DataAt (sf j) Z cap W' ∧ Rd W' R S zs ∧ Turns (fun b => b = R) W W') :
    Calls Tryz.prog 35 #[.pointer (some ⟨R, 0, none⟩), .func (.func 36) #[] #[.pointer (some ⟨bx, 0, none⟩)]] w fun e w' => ∃ v Zf cf, e = .returned v ∧ RowSt w R S n 37 3 (linkRow ver) sf bs ys v n w' Zf cf := by
  have HN := Lib.hid (number28 R S n (by omega) (flat bs 0 n ++ ys) w hr)
  have HO := Lib.hid hone
  clear hr hone
  go_enter Tryz.func35, Tryz.ntmps35
  go_wp2_with fail
  refine HN.out.mono ?_
  rintro e w1 ⟨rfl, hr1, ht1⟩
  have hr1 := Lib.hid hr1
  have ht1 := Lib.hid ht1
  clear HN
  have hd : decide ((64 : Int) < n) = false := by simp; omega
  go_wp2_with fail
  clear hd
  go_loopw [4, 13] (fun v i wr => ∃ k Zf cf, k ≤ n ∧ i = .int .i64 k ∧ RowSt w R S n 37 3 (linkRow ver) sf bs ys v k wr Zf cf) (fun _ i _ => n - (intOf i).toNat)
  case atStart => exact ⟨0, fun _ => 0, fun _ => 0, by omega, rfl, ⟨World.ownsRow_nil _ _ _ _, fun j hj => absurd hj (Nat.not_lt_zero j), hr1.out, ht1.out⟩⟩
  case round =>
    obtain ⟨k, Zf, cf, hk, rfl, hst⟩ := hrel
    by_cases hlt : k < n
    · have hrd := hst.rd
      rw [flat_step bs k n hlt, List.append_assoc] at hrd
      have HC := Lib.hid (HO.out k hlt _ _ hst.turns hrd)
      clear hrd
      have HST := Lib.hid hst
      clear hst hr1 ht1
      go_wp2_with fail
      refine HC.out.mono ?_
      rintro e w2 ⟨Z, cap, rfl, hZ, hda, hrd, htu⟩
      have HZ := Lib.hid (show _ ∧ _ ∧ _ ∧ _ from ⟨hZ, hda, hrd, htu⟩)
      clear hZ hda hrd htu HC
      have hown := ownsRow_turned HST.out.own HZ.out.2.2.2 (fun b hb e => by omega)
      obtain ⟨i0, hi, hz0, hz1, hz2⟩ := info_parts Tryz.info37
      have hsz := Nat.le_trans HST.out.turns.size HZ.out.2.2.2.size
      dsimp only [linkRow] at hown ⊢
      have hown := Lib.hid hown
      go_wp2_with (at_builtin; refine wpList_append_own_at _ rfl _ _ 25 rfl w.heap.size 37 i0 (.agg #[.string ⟨#[]⟩, .string ⟨#[]⟩, .int .i64 0]) 3 40 Tryz.underlying25 hi hz0 hz1 hz2 rfl (by decide) _ _ _ rfl (hown.out.alloc _) ⟨w2.heap.size, 0, none⟩ 1 1 [.string (One 108), .string (One 112), .int .i64 (ver k)] rfl rfl ?c1 ?c2 ?c3 ?c4 ?c5 ?_; rotate_right; intro v' w3 hown' hgrow _ hat)
      case c1 => exact fun j u hj => cells_new w2 _ 37 j u (by simpa using hj)
      case c2 => intro u hu; simp at hu; rcases hu with rfl | rfl | rfl <;> rfl
      case c3 => unfold maxLen; omega
      case c4 => omega
      case c5 => simp; omega
      have hfin := Lib.hid (HST.out.step hR hS HZ.out.2.2.2 HZ.out.2.2.1 HZ.out.2.1 HZ.out.1 hgrow hat hown')
      clear hown' hgrow hat hown HST HZ
      go_wp2_with fail
      refine ⟨⟨k + 1, _, _, by omega, by go_num, hfin.out⟩, by simp [intOf]; omega⟩
    · obtain rfl : k = n := by omega
      have hst := Lib.hid hst
      go_wp2_with fail
      go_ret
      exact ⟨_, Zf, cf, rfl, hst.out⟩
def dumpRow (kd mx : Nat → Nat) (sf : Nat → ByteArray) (j Z c : Nat) : List Value := [.string (One 109), .int .i64 (kd j), .int .i64 1, .int .i64 1, .int .i64 (mx j), .slice (some ⟨Z, 0, none⟩) (sf j).size c]
set_option maxHeartbeats 1000000 in
theorem rows33 (R S bx n : Nat) (hn : n ≤ 64) (kd mx : Nat → Nat) (sf : Nat → ByteArray) (bs : Nat → List UInt8) (ys : List UInt8) (w : World) (hR : R < w.heap.size) (hS : S < w.heap.size)
    (hr : Rd w R S (be4 n ++ (flat bs 0 n ++ ys)))
    (hone : ∀ j, j < n → ∀ W zs, Turns (fun b => b = R) w W → Rd W R S (bs j ++ zs) → Calls Tryz.prog 34 #[.pointer (some ⟨bx, 0, none⟩)] W fun e W' => ∃ Z cap, e = .returned (.agg (dumpRow kd mx sf j Z cap).toArray) ∧ (0 < (sf j).size → W.heap.size ≤ Z) ∧ DataAt (sf j) Z cap W' ∧ Rd W' R S zs ∧ Turns (fun b => b = R) W W') :
    Calls Tryz.prog 33 #[.pointer (some ⟨R, 0, none⟩), .func (.func 34) #[] #[.pointer (some ⟨bx, 0, none⟩)]] w fun e w' => ∃ v Zf cf, e = .returned v ∧ RowSt w R S n 35 6 (dumpRow kd mx sf) sf bs ys v n w' Zf cf := by
  have HN := Lib.hid (number28 R S n (by omega) (flat bs 0 n ++ ys) w hr)
  have HO := Lib.hid hone
  clear hr hone
  go_enter Tryz.func33, Tryz.ntmps33
  go_wp2_with fail
  refine HN.out.mono ?_
  rintro e w1 ⟨rfl, hr1, ht1⟩
  have hr1 := Lib.hid hr1
  have ht1 := Lib.hid ht1
  clear HN
  have hd : decide ((64 : Int) < n) = false := by simp; omega
  go_wp2_with fail
  clear hd
  go_loopw [4, 13] (fun v i wr => ∃ k Zf cf, k ≤ n ∧ i = .int .i64 k ∧ RowSt w R S n 35 6 (dumpRow kd mx sf) sf bs ys v k wr Zf cf) (fun _ i _ => n - (intOf i).toNat)
  case atStart => exact ⟨0, fun _ => 0, fun _ => 0, by omega, rfl, ⟨World.ownsRow_nil _ _ _ _, fun j hj => absurd hj (Nat.not_lt_zero j), hr1.out, ht1.out⟩⟩
  case round =>
    obtain ⟨k, Zf, cf, hk, rfl, hst⟩ := hrel
    by_cases hlt : k < n
    · have hrd := hst.rd
      rw [flat_step bs k n hlt, List.append_assoc] at hrd
      have HC := Lib.hid (HO.out k hlt _ _ hst.turns hrd)
      clear hrd
      have HST := Lib.hid hst
      clear hst hr1 ht1
      go_wp2_with fail
      refine HC.out.mono ?_
      rintro e w2 ⟨Z, cap, rfl, hZ, hda, hrd, htu⟩
      have HZ := Lib.hid (show _ ∧ _ ∧ _ ∧ _ from ⟨hZ, hda, hrd, htu⟩)
      clear hZ hda hrd htu HC
      have hown := ownsRow_turned HST.out.own HZ.out.2.2.2 (fun b hb e => by omega)
      obtain ⟨i0, hi, hz0, hz1, hz2⟩ := info_parts Tryz.info35
      have hsz := Nat.le_trans HST.out.turns.size HZ.out.2.2.2.size
      dsimp only [dumpRow] at hown ⊢
      have hown := Lib.hid hown
      go_wp2_with (at_builtin; refine wpList_append_own_at _ rfl _ _ 24 rfl w.heap.size 35 i0 (.agg #[.string ⟨#[]⟩, .int .i64 0, .int .i64 0, .int .i64 0, .int .i64 0, .slice none 0 0]) 6 72 Tryz.underlying24 hi hz0 hz1 hz2 rfl (by decide) _ _ _ rfl (hown.out.alloc _) ⟨w2.heap.size, 0, none⟩ 1 1 [.string (One 109), .int .i64 (kd k), .int .i64 1, .int .i64 1, .int .i64 (mx k), .slice (some ⟨Z, 0, none⟩) (sf k).size cap] rfl rfl ?c1 ?c2 ?c3 ?c4 ?c5 ?_; rotate_right; intro v' w3 hown' hgrow _ hat)
      case c1 => exact fun j u hj => cells_new w2 _ 35 j u (by simpa using hj)
      case c2 => intro u hu; simp at hu; rcases hu with rfl | rfl | rfl | rfl | rfl | rfl <;> rfl
      case c3 => unfold maxLen; omega
      case c4 => omega
      case c5 => simp; omega
      have hfin := Lib.hid (HST.out.step hR hS HZ.out.2.2.2 HZ.out.2.2.1 HZ.out.2.1 HZ.out.1 hgrow hat hown')
      clear hown' hgrow hat hown HST HZ
      go_wp2_with fail
      refine ⟨⟨k + 1, _, _, by omega, by go_num, hfin.out⟩, by simp [intOf]; omega⟩
    · obtain rfl : k = n := by omega
      have hst := Lib.hid hst
      go_wp2_with fail
      go_ret
      exact ⟨_, Zf, cf, rfl, hst.out⟩
def progRow (ctx : Nat → Nat) (sf : Nat → ByteArray) (j Z c : Nat) : List Value := [.string (One 112), .slice (some ⟨Z, 0, none⟩) (sf j).size c, .slice none 0 0, .int .i64 (ctx j), .int .i64 0]
set_option maxHeartbeats 1000000 in
theorem rows29 (R S bx n : Nat) (hn : n ≤ 64) (ctx : Nat → Nat) (sf : Nat → ByteArray) (bs : Nat → List UInt8) (ys : List UInt8) (w : World) (hR : R < w.heap.size) (hS : S < w.heap.size)
    (hr : Rd w R S (be4 n ++ (flat bs 0 n ++ ys)))
    (hone : ∀ j, j < n → ∀ W zs, Turns (fun b => b = R) w W → Rd W R S (bs j ++ zs) → Calls Tryz.prog 30 #[.pointer (some ⟨bx, 0, none⟩)] W fun e W' => ∃ Z cap, e = .returned (.agg (progRow ctx sf j Z cap).toArray) ∧ (0 < (sf j).size → W.heap.size ≤ Z) ∧ DataAt (sf j) Z cap W' ∧ Rd W' R S zs ∧ Turns (fun b => b = R) W W') :
    Calls Tryz.prog 29 #[.pointer (some ⟨R, 0, none⟩), .func (.func 30) #[] #[.pointer (some ⟨bx, 0, none⟩)]] w fun e w' => ∃ v Zf cf, e = .returned v ∧ RowSt w R S n 31 5 (progRow ctx sf) sf bs ys v n w' Zf cf := by
  have HN := Lib.hid (number28 R S n (by omega) (flat bs 0 n ++ ys) w hr)
  have HO := Lib.hid hone
  clear hr hone
  go_enter Tryz.func29, Tryz.ntmps29
  go_wp2_with fail
  refine HN.out.mono ?_
  rintro e w1 ⟨rfl, hr1, ht1⟩
  have hr1 := Lib.hid hr1
  have ht1 := Lib.hid ht1
  clear HN
  have hd : decide ((64 : Int) < n) = false := by simp; omega
  go_wp2_with fail
  clear hd
  go_loopw [4, 13] (fun v i wr => ∃ k Zf cf, k ≤ n ∧ i = .int .i64 k ∧ RowSt w R S n 31 5 (progRow ctx sf) sf bs ys v k wr Zf cf) (fun _ i _ => n - (intOf i).toNat)
  case atStart => exact ⟨0, fun _ => 0, fun _ => 0, by omega, rfl, ⟨World.ownsRow_nil _ _ _ _, fun j hj => absurd hj (Nat.not_lt_zero j), hr1.out, ht1.out⟩⟩
  case round =>
    obtain ⟨k, Zf, cf, hk, rfl, hst⟩ := hrel
    by_cases hlt : k < n
    · have hrd := hst.rd
      rw [flat_step bs k n hlt, List.append_assoc] at hrd
      have HC := Lib.hid (HO.out k hlt _ _ hst.turns hrd)
      clear hrd
      have HST := Lib.hid hst
      clear hst hr1 ht1
      go_wp2_with fail
      refine HC.out.mono ?_
      rintro e w2 ⟨Z, cap, rfl, hZ, hda, hrd, htu⟩
      have HZ := Lib.hid (show _ ∧ _ ∧ _ ∧ _ from ⟨hZ, hda, hrd, htu⟩)
      clear hZ hda hrd htu HC
      have hown := ownsRow_turned HST.out.own HZ.out.2.2.2 (fun b hb e => by omega)
      obtain ⟨i0, hi, hz0, hz1, hz2⟩ := info_parts Tryz.info31
      have hsz := Nat.le_trans HST.out.turns.size HZ.out.2.2.2.size
      dsimp only [progRow] at hown ⊢
      have hown := Lib.hid hown
      go_wp2_with (at_builtin; refine wpList_append_own_at _ rfl _ _ 23 rfl w.heap.size 31 i0 (.agg #[.string ⟨#[]⟩, .slice none 0 0, .slice none 0 0, .int .i64 0, .int .i64 0]) 5 80 Tryz.underlying23 hi hz0 hz1 hz2 rfl (by decide) _ _ _ rfl (hown.out.alloc _) ⟨w2.heap.size, 0, none⟩ 1 1 [.string (One 112), .slice (some ⟨Z, 0, none⟩) (sf k).size cap, .slice none 0 0, .int .i64 (ctx k), .int .i64 0] rfl rfl ?c1 ?c2 ?c3 ?c4 ?c5 ?_; rotate_right; intro v' w3 hown' hgrow _ hat)
      case c1 => exact fun j u hj => cells_new w2 _ 31 j u (by simpa using hj)
      case c2 => intro u hu; simp at hu; rcases hu with rfl | rfl | rfl | rfl | rfl <;> rfl
      case c3 => unfold maxLen; omega
      case c4 => omega
      case c5 => simp; omega
      have hfin := Lib.hid (HST.out.step hR hS HZ.out.2.2.2 HZ.out.2.2.1 HZ.out.2.1 HZ.out.1 hgrow hat hown')
      clear hown' hgrow hat hown HST HZ
      go_wp2_with fail
      refine ⟨⟨k + 1, _, _, by omega, by go_num, hfin.out⟩, by simp [intOf]; omega⟩
    · obtain rfl : k = n := by omega
      have hst := Lib.hid hst
      go_wp2_with fail
      go_ret
      exact ⟨_, Zf, cf, rfl, hst.out⟩
end Go.Proofs.YtfhjffkcobmkaaaGreat
