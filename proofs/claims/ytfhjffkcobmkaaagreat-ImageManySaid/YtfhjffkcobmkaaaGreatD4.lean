/- A dump says yes: dump13 at both kinds of table. -/
import Derived.WalkKit
import Derived.Lib.Hide
import Derived.WalkLawsBesides
import Derived.WalkSpells
import Derived.BigQuiet
import Derived.Deep.QuietTactic
import Derived.Handy
import Derived.RangeFuncBox
import Derived.Shelf.Abstract
import Derived.Deep.RegionWith
import Derived.Deep.RegionHeld3
import Derived.StillTailTactics
import Derived.Lib.AppendStr
import Derived.RangeFuncNested
import Derived.RangeFuncBound
import Derived.RangeFuncCalls
import Derived.RangeFuncLeaves
import Derived.Shelf.AbstractIn
import Derived.Shelf.RegionOpen
import Derived.OwnWalkIn
import Derived.TacticsInMore
import Derived.LoopNIn
import Derived.LoopIn
import Derived.LaidEqlPtr
import Derived.Lib.Builder
import Derived.Test.YtfhjffkcobmkaaaGreatD3
set_option linter.unusedVariables false
set_option linter.unusedSimpArgs false
namespace Go.Proofs.YtfhjffkcobmkaaaGreat
open Go.RowKit
set_option maxHeartbeats 400000 in
theorem dump13hash (c : UInt8) (hc : Letter c) (m : Int) (hm : RightMap 2 1 1 m) (p : Option Addr) (cap : Nat) (w : World) : YesD w 13 (.string (One c)) (.int .i64 2) (.int .i64 1) (.int .i64 1) (.int .i64 m) (.slice p 0 cap) := by
  intro W hW
  have hr := fun W => restore25hash c hc m hm p cap W
  unfold mapCells at hr
  go_enter Tryz.func13, Tryz.ntmps13
  go_wp2_with fail
  refine (hr _).mono ?_
  rintro e w1 ⟨T, rfl, hb⟩
  clear hr
  go_wp2_with fail
  go_ret
  exact ⟨rfl, ((Below.refl _ _).alloc (Nat.le_refl _) _).trans (hb.mono (by simp))⟩
set_option maxHeartbeats 400000 in
theorem dump13lru (c : UInt8) (hc : Letter c) (S o cap : Nat) (ka va kb vb : UInt8) (hab : ka ≠ kb) (hcap : 4 ≤ cap) (hcm : cap ≤ maxLen) (w : World)
    (hdata : ∀ j u, ([ka, va, kb, vb].map u8)[j]? = some u → w.cell? ⟨S, o + j, none⟩ = some u) : YesD w 13 (.string (One c)) (.int .i64 3) (.int .i64 1) (.int .i64 1) (.int .i64 2) (.slice (some ⟨S, o, none⟩) 4 cap) := by
  intro W hW
  have hSl : S < w.heap.size := World.block_lt_of_cell? w _ (hdata 0 (u8 ka) rfl)
  have hb1 : ∀ x, Below w.heap.size w (W.alloc x) := fun x => hW.alloc hW.size _
  have hr := fun x => restore25lru c hc S o cap ka va kb vb hab hcap hcm (W.alloc x) (fun j u hj => ((hb1 x).cell (p := ⟨S, o + j, none⟩) hSl).trans (hdata j u hj))
  unfold mapCells at hr
  clear hdata
  go_enter Tryz.func13, Tryz.ntmps13
  go_wp2_with fail
  refine (hr _).mono ?_
  rintro e w1 ⟨T, rfl, hb⟩
  clear hr
  go_wp2_with fail
  go_ret
  exact ⟨rfl, ((Below.refl _ _).alloc (Nat.le_refl _) _).trans (hb.mono (by simp))⟩
theorem ent13 : ∀ (args : Array Value) (w : World), (callFunc 13 args).run Tryz.prog w = .ok (.enter 13 args) w := enters_of Tryz.func13 (by kernel_rfl) rfl
end Go.Proofs.YtfhjffkcobmkaaaGreat
