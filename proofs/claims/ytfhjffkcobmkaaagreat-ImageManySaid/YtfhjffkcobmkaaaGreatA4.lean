/- Contracts of image.program and image.link: a program of no code and no maps, a link, are right, if their names are small letters and their numbers lie in their bounds. -/
import Derived.WalkKit
import Derived.Lib.Hide
import Derived.WalkLawsBesides
import Derived.WalkSpells
import Derived.BigQuiet
import Derived.Deep.QuietTactic
import Derived.Handy
import Derived.RangeFuncBox
import Derived.Shelf.Abstract
import Derived.Test.YtfhjffkcobmkaaaGreatA3
set_option linter.unusedVariables false
set_option linter.unusedSimpArgs false
namespace Go.Proofs.YtfhjffkcobmkaaaGreat
open Go.RowKit
theorem ent20 : ∀ (args : Array Value) (w : World), (callFunc 20 args).run Tryz.prog w = .ok (.enter 20 args) w := enters_of Tryz.func20 (by kernel_rfl) rfl
set_option maxHeartbeats 400000 in
theorem program11 (c : UInt8) (hc : Letter c) (ca : Option Addr) (cc : Nat) (x y : Int) (hx : 0 ≤ x) (hx' : x ≤ 256) (hy : 0 ≤ y) (hy' : y ≤ 256) (w : World) :
    Calls Tryz.prog 11 #[.agg #[.string (One c), .slice ca 0 cc, .slice none 0 0, .int .i64 x, .int .i64 y]] w fun e w' => e = .returned (.bool true) ∧ Below w.heap.size w w' := by
  have ca21 := fun W => all21 20 0 0 0 16 none (fun _ => .nilFunc) W (by simp) (by omega) (by simp) (by simp) ent20
  go_enter Tryz.func11, Tryz.ntmps11
  go_wp2_with fail
  refine (name20 c hc _).mono ?_
  rintro e w1 ⟨rfl, hb1⟩
  obtain ⟨hc1, hf1⟩ := bcell hb1
  go_wp2_with fail
  refine (ca21 _).mono ?_
  rintro e w2 ⟨rfl, hb2⟩
  have hb12 := hb1.trans (hb2.mono hb1.size)
  clear hb1 hb2 hc1 hf1
  obtain ⟨hc2, hf2⟩ := bcell hb12
  go_wp2_with (go_at_call 22; refine (within22t _ _ (by omega) (by omega) _).mono ?_; rintro e w' ⟨rfl, rfl⟩)
  go_ret
  exact ⟨rfl, ((Below.refl _ _).alloc (Nat.le_refl _) _).trans (hb12.mono (by simp))⟩
set_option maxHeartbeats 400000 in
theorem link15 (a b : UInt8) (ha : Letter a) (hbl : Letter b) (v : Int) (hv : 0 ≤ v) (hv' : v ≤ 1000) (w : World) :
    Calls Tryz.prog 15 #[.agg #[.string (One a), .string (One b), .int .i64 v]] w fun e w' => e = .returned (.bool true) ∧ Below w.heap.size w w' := by
  have hw := fun W => within22t v 1073741824 hv (by omega) W
  go_enter Tryz.func15, Tryz.ntmps15
  go_wp2_with fail
  refine (name20 a ha _).mono ?_
  rintro e w1 ⟨rfl, hb1⟩
  obtain ⟨hc1, hf1⟩ := bcell hb1
  go_wp2_with fail
  refine (name20 b hbl _).mono ?_
  rintro e w2 ⟨rfl, hb2⟩
  have hb12 := hb1.trans (hb2.mono hb1.size)
  clear hb1 hb2 hc1 hf1
  obtain ⟨hc2, hf2⟩ := bcell hb12
  go_wp2_with fail
  refine (hw _).mono ?_
  rintro e w' ⟨rfl, rfl⟩
  go_wp2_with fail
  go_ret
  exact ⟨rfl, ((Below.refl _ _).alloc (Nat.le_refl _) _).trans (hb12.mono (by simp))⟩
end Go.Proofs.YtfhjffkcobmkaaaGreat
