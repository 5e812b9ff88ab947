/- Contracts of the generic all, slices.ContainsFunc and slices.IndexFunc at programs, dumps, links and strings: where the predicate says yes of each element, all says whether there are not too many. -/
import Derived.WalkKit
import Derived.Lib.Hide
import Derived.WalkLawsBesides
import Derived.WalkSpells
import Derived.BigQuiet
import Derived.Deep.QuietTactic
import Derived.Handy
import Derived.RangeFuncBox
import Derived.Test.YtfhjffkcobmkaaaGreatA2
set_option linter.unusedVariables false
set_option linter.unusedSimpArgs false
namespace Go.Proofs.YtfhjffkcobmkaaaGreat
open Go.RowKit

/-- a predicate g says yes of a P in every later world -/
def YesP (w : World) (g : FuncId) (c0 c1 c2 c3 c4 : Value) : Prop := ∀ W, Below w.heap.size w W → Calls Tryz.prog g #[.agg #[c0, c1, c2, c3, c4]] W fun e W' => e = .returned (.bool true) ∧ Below W.heap.size W W'
theorem YesP.later {w w1 : World} {g : FuncId} {c0 c1 c2 c3 c4 : Value} (h : YesP w g c0 c1 c2 c3 c4) (hb : Below w.heap.size w w1) : YesP w1 g c0 c1 c2 c3 c4 := fun W hW => h W (hb.trans (hW.mono hb.size))
set_option maxHeartbeats 400000 in
theorem not19 (g R : Nat) (c0 c1 c2 c3 c4 : Value) (w : World) (hg : YesP w g c0 c1 c2 c3 c4) (hR : Boxed w R 51 (.func (.func g) #[] #[])) (hen : ∀ args w, (callFunc g args).run Tryz.prog w = .ok (.enter g args) w) :
    Calls Tryz.prog 19 #[.agg #[c0, c1, c2, c3, c4], .pointer (some ⟨R, 0, none⟩)] w fun e W' => e = .returned (.bool false) ∧ Below w.heap.size w W' := by
  have h1 := hR.cell
  have h2 := hR.lt
  go_enter Tryz.func19, Tryz.ntmps19
  go_wp2_with fail
  refine (hg _ ((Below.refl _ _).alloc (Nat.le_refl _) _)).mono ?_
  rintro e w' ⟨rfl, hb⟩
  go_wp2_with fail
  go_ret
  exact ⟨rfl, ((Below.refl _ _).alloc (Nat.le_refl _) _).trans (hb.mono (by simp))⟩
set_option maxHeartbeats 400000 in
theorem index37 (g R B n cap : Nat) (a : Option Addr) (c0 c1 c2 c3 c4 : Nat → Value) (w : World) (ha : 0 < n → a = some ⟨B, 0, none⟩) (hn : n ≤ 1000)
    (hc : ∀ j, j < n → w.cell? ⟨B, j * 5, none⟩ = some (c0 j) ∧ w.cell? ⟨B, j * 5 + 1, none⟩ = some (c1 j) ∧ w.cell? ⟨B, j * 5 + 2, none⟩ = some (c2 j) ∧ w.cell? ⟨B, j * 5 + 3, none⟩ = some (c3 j) ∧ w.cell? ⟨B, j * 5 + 4, none⟩ = some (c4 j))
    (hg : ∀ j, j < n → YesP w g (c0 j) (c1 j) (c2 j) (c3 j) (c4 j)) (hR : Boxed w R 51 (.func (.func g) #[] #[])) (hen : ∀ args w, (callFunc g args).run Tryz.prog w = .ok (.enter g args) w) :
    Calls Tryz.prog 37 #[.slice a n cap, .func (.func 19) #[] #[.pointer (some ⟨R, 0, none⟩)]] w fun e W' => e = .returned (.int .i64 (-1)) ∧ Below w.heap.size w W' := by
  go_enter Tryz.func37, Tryz.ntmps37
  go_wp2
  go_loopw [8] (fun i wr => ∃ k : Nat, k ≤ n ∧ i = .int .i64 k ∧ Below w.heap.size w wr) (fun i _ => n - (intOf i).toNat)
  case atStart => exact ⟨0, by omega, rfl, Below.refl _ _⟩
  case round =>
    obtain ⟨j, hj, rfl, hb⟩ := hrel
    by_cases hlt : j < n
    · obtain rfl := ha (by omega)
      have hcj := hc j hlt
      have hgj := (hg j hlt).later hb
      have hRj : Boxed wr R 51 (.func (.func g) #[] #[]) := (hb.block R hR.lt).trans hR
      have hbc : ∀ o v, w.cell? ⟨B, o, none⟩ = some v → wr.cell? ⟨B, o, none⟩ = some v := fun o v h => (hb.cell (p := ⟨B, o, none⟩) (World.block_lt_of_cell? w _ h)).trans h
      have cl := not19 g R (c0 j) (c1 j) (c2 j) (c3 j) (c4 j) wr hgj hRj hen
      obtain ⟨q0, q1, q2, q3, q4⟩ := hcj
      have q0 := hbc _ _ q0
      have q1 := hbc _ _ q1
      have q2 := hbc _ _ q2
      have q3 := hbc _ _ q3
      have q4 := hbc _ _ q4
      clear hc hg hbc hgj hRj ha hR
      generalize c0 j = x0 at *
      generalize c1 j = x1 at *
      generalize c2 j = x2 at *
      generalize c3 j = x3 at *
      generalize c4 j = x4 at *
      go_wp2_with fail
      refine cl.mono ?_
      rintro e w1 ⟨rfl, hb1⟩
      go_wp2
      refine ⟨⟨j + 1, by omega, by go_num, hb.trans (hb1.mono hb.size)⟩, by simp [intOf]; omega⟩
    · obtain rfl : j = n := by omega
      clear ha hc hg
      go_wp2
      go_ret
      exact ⟨rfl, hb⟩
theorem contains18 (g R B n cap : Nat) (a : Option Addr) (c0 c1 c2 c3 c4 : Nat → Value) (w : World) (ha : 0 < n → a = some ⟨B, 0, none⟩) (hn : n ≤ 1000)
    (hc : ∀ j, j < n → w.cell? ⟨B, j * 5, none⟩ = some (c0 j) ∧ w.cell? ⟨B, j * 5 + 1, none⟩ = some (c1 j) ∧ w.cell? ⟨B, j * 5 + 2, none⟩ = some (c2 j) ∧ w.cell? ⟨B, j * 5 + 3, none⟩ = some (c3 j) ∧ w.cell? ⟨B, j * 5 + 4, none⟩ = some (c4 j))
    (hg : ∀ j, j < n → YesP w g (c0 j) (c1 j) (c2 j) (c3 j) (c4 j)) (hR : Boxed w R 51 (.func (.func g) #[] #[])) (hen : ∀ args w, (callFunc g args).run Tryz.prog w = .ok (.enter g args) w) :
    Calls Tryz.prog 18 #[.slice a n cap, .func (.func 19) #[] #[.pointer (some ⟨R, 0, none⟩)]] w fun e W' => e = .returned (.bool false) ∧ Below w.heap.size w W' := by
  have ci := index37 g R B n cap a c0 c1 c2 c3 c4 w ha hn hc hg hR hen
  clear hc hg ha hR hen
  go_enter Tryz.func18, Tryz.ntmps18
  go_wp2_with fail
  refine ci.mono ?_
  rintro e w1 ⟨rfl, hb1⟩
  go_wp2
  go_ret
  exact ⟨rfl, hb1⟩
/-- 'all' says yes just if there are not too many -/
theorem all10 (g B n cap : Nat) (most : Int) (a : Option Addr) (c0 c1 c2 c3 c4 : Nat → Value) (w : World) (ha : 0 < n → a = some ⟨B, 0, none⟩) (hn : n ≤ 1000)
    (hc : ∀ j, j < n → w.cell? ⟨B, j * 5, none⟩ = some (c0 j) ∧ w.cell? ⟨B, j * 5 + 1, none⟩ = some (c1 j) ∧ w.cell? ⟨B, j * 5 + 2, none⟩ = some (c2 j) ∧ w.cell? ⟨B, j * 5 + 3, none⟩ = some (c3 j) ∧ w.cell? ⟨B, j * 5 + 4, none⟩ = some (c4 j))
    (hg : ∀ j, j < n → YesP w g (c0 j) (c1 j) (c2 j) (c3 j) (c4 j)) (hen : ∀ args w, (callFunc g args).run Tryz.prog w = .ok (.enter g args) w) :
    Calls Tryz.prog 10 #[.slice a n cap, .int .i64 most, .func (.func g) #[] #[]] w fun e W' => e = .returned (.bool (decide ((n : Int) ≤ most))) ∧ Below w.heap.size w W' := by
  by_cases hm : (n : Int) ≤ most
  · have cc := contains18 g w.heap.size B n cap a c0 c1 c2 c3 c4 (w.alloc (.cells #[.func (.func g) #[] #[]] 51)) ha hn (fun j hj => by
      obtain hq := hc j hj
      have hal : ∀ p v, w.cell? p = some v → (w.alloc (.cells #[.func (.func g) #[] #[]] 51)).cell? p = some v := fun p v h => (((Below.refl w.heap.size w).alloc (Nat.le_refl _) (.cells #[.func (.func g) #[] #[]] 51)).cell (p := p) (World.block_lt_of_cell? w _ h)).trans h
      exact ⟨hal _ _ hq.1, hal _ _ hq.2.1, hal _ _ hq.2.2.1, hal _ _ hq.2.2.2.1, hal _ _ hq.2.2.2.2⟩) (fun j hj => (hg j hj).later ((Below.refl _ _).alloc (Nat.le_refl _) _)) (Boxed.new w 51 _) hen
    clear hc hg ha hen
    go_enter Tryz.func10, Tryz.ntmps10
    go_wp2_with fail
    refine cc.mono ?_
    rintro e w1 ⟨rfl, hb1⟩
    go_wp2
    go_ret
    exact ⟨by simp [hm], ((Below.refl _ _).alloc (Nat.le_refl _) _).trans (hb1.mono (by simp))⟩
  · have hd : decide ((n : Int) ≤ most) = false := by simpa using hm
    clear hc hg ha hen
    go_enter Tryz.func10, Tryz.ntmps10
    go_wp2
    go_ret
    exact ⟨by simp [hm], (Below.refl _ _).alloc (Nat.le_refl _) _⟩


/-- a predicate g says yes of a D in every later world -/
def YesD (w : World) (g : FuncId) (c0 c1 c2 c3 c4 c5 : Value) : Prop := ∀ W, Below w.heap.size w W → Calls Tryz.prog g #[.agg #[c0, c1, c2, c3, c4, c5]] W fun e W' => e = .returned (.bool true) ∧ Below W.heap.size W W'
theorem YesD.later {w w1 : World} {g : FuncId} {c0 c1 c2 c3 c4 c5 : Value} (h : YesD w g c0 c1 c2 c3 c4 c5) (hb : Below w.heap.size w w1) : YesD w1 g c0 c1 c2 c3 c4 c5 := fun W hW => h W (hb.trans (hW.mono hb.size))
set_option maxHeartbeats 400000 in
theorem not24 (g R : Nat) (c0 c1 c2 c3 c4 c5 : Value) (w : World) (hg : YesD w g c0 c1 c2 c3 c4 c5) (hR : Boxed w R 53 (.func (.func g) #[] #[])) (hen : ∀ args w, (callFunc g args).run Tryz.prog w = .ok (.enter g args) w) :
    Calls Tryz.prog 24 #[.agg #[c0, c1, c2, c3, c4, c5], .pointer (some ⟨R, 0, none⟩)] w fun e W' => e = .returned (.bool false) ∧ Below w.heap.size w W' := by
  have h1 := hR.cell
  have h2 := hR.lt
  go_enter Tryz.func24, Tryz.ntmps24
  go_wp2_with fail
  refine (hg _ ((Below.refl _ _).alloc (Nat.le_refl _) _)).mono ?_
  rintro e w' ⟨rfl, hb⟩
  go_wp2_with fail
  go_ret
  exact ⟨rfl, ((Below.refl _ _).alloc (Nat.le_refl _) _).trans (hb.mono (by simp))⟩
set_option maxHeartbeats 400000 in
theorem index41 (g R B n cap : Nat) (a : Option Addr) (c0 c1 c2 c3 c4 c5 : Nat → Value) (w : World) (ha : 0 < n → a = some ⟨B, 0, none⟩) (hn : n ≤ 1000)
    (hc : ∀ j, j < n → w.cell? ⟨B, j * 6, none⟩ = some (c0 j) ∧ w.cell? ⟨B, j * 6 + 1, none⟩ = some (c1 j) ∧ w.cell? ⟨B, j * 6 + 2, none⟩ = some (c2 j) ∧ w.cell? ⟨B, j * 6 + 3, none⟩ = some (c3 j) ∧ w.cell? ⟨B, j * 6 + 4, none⟩ = some (c4 j) ∧ w.cell? ⟨B, j * 6 + 5, none⟩ = some (c5 j))
    (hg : ∀ j, j < n → YesD w g (c0 j) (c1 j) (c2 j) (c3 j) (c4 j) (c5 j)) (hR : Boxed w R 53 (.func (.func g) #[] #[])) (hen : ∀ args w, (callFunc g args).run Tryz.prog w = .ok (.enter g args) w) :
    Calls Tryz.prog 41 #[.slice a n cap, .func (.func 24) #[] #[.pointer (some ⟨R, 0, none⟩)]] w fun e W' => e = .returned (.int .i64 (-1)) ∧ Below w.heap.size w W' := by
  go_enter Tryz.func41, Tryz.ntmps41
  go_wp2
  go_loopw [8] (fun i wr => ∃ k : Nat, k ≤ n ∧ i = .int .i64 k ∧ Below w.heap.size w wr) (fun i _ => n - (intOf i).toNat)
  case atStart => exact ⟨0, by omega, rfl, Below.refl _ _⟩
  case round =>
    obtain ⟨j, hj, rfl, hb⟩ := hrel
    by_cases hlt : j < n
    · obtain rfl := ha (by omega)
      have hcj := hc j hlt
      have hgj := (hg j hlt).later hb
      have hRj : Boxed wr R 53 (.func (.func g) #[] #[]) := (hb.block R hR.lt).trans hR
      have hbc : ∀ o v, w.cell? ⟨B, o, none⟩ = some v → wr.cell? ⟨B, o, none⟩ = some v := fun o v h => (hb.cell (p := ⟨B, o, none⟩) (World.block_lt_of_cell? w _ h)).trans h
      have cl := not24 g R (c0 j) (c1 j) (c2 j) (c3 j) (c4 j) (c5 j) wr hgj hRj hen
      obtain ⟨q0, q1, q2, q3, q4, q5⟩ := hcj
      have q0 := hbc _ _ q0
      have q1 := hbc _ _ q1
      have q2 := hbc _ _ q2
      have q3 := hbc _ _ q3
      have q4 := hbc _ _ q4
      have q5 := hbc _ _ q5
      clear hc hg hbc hgj hRj ha hR
      generalize c0 j = x0 at *
      generalize c1 j = x1 at *
      generalize c2 j = x2 at *
      generalize c3 j = x3 at *
      generalize c4 j = x4 at *
      generalize c5 j = x5 at *
      go_wp2_with fail
      refine cl.mono ?_
      rintro e w1 ⟨rfl, hb1⟩
      go_wp2
      refine ⟨⟨j + 1, by omega, by go_num, hb.trans (hb1.mono hb.size)⟩, by simp [intOf]; omega⟩
    · obtain rfl : j = n := by omega
      clear ha hc hg
      go_wp2
      go_ret
      exact ⟨rfl, hb⟩
theorem contains23 (g R B n cap : Nat) (a : Option Addr) (c0 c1 c2 c3 c4 c5 : Nat → Value) (w : World) (ha : 0 < n → a = some ⟨B, 0, none⟩) (hn : n ≤ 1000)
    (hc : ∀ j, j < n → w.cell? ⟨B, j * 6, none⟩ = some (c0 j) ∧ w.cell? ⟨B, j * 6 + 1, none⟩ = some (c1 j) ∧ w.cell? ⟨B, j * 6 + 2, none⟩ = some (c2 j) ∧ w.cell? ⟨B, j * 6 + 3, none⟩ = some (c3 j) ∧ w.cell? ⟨B, j * 6 + 4, none⟩ = some (c4 j) ∧ w.cell? ⟨B, j * 6 + 5, none⟩ = some (c5 j))
    (hg : ∀ j, j < n → YesD w g (c0 j) (c1 j) (c2 j) (c3 j) (c4 j) (c5 j)) (hR : Boxed w R 53 (.func (.func g) #[] #[])) (hen : ∀ args w, (callFunc g args).run Tryz.prog w = .ok (.enter g args) w) :
    Calls Tryz.prog 23 #[.slice a n cap, .func (.func 24) #[] #[.pointer (some ⟨R, 0, none⟩)]] w fun e W' => e = .returned (.bool false) ∧ Below w.heap.size w W' := by
  have ci := index41 g R B n cap a c0 c1 c2 c3 c4 c5 w ha hn hc hg hR hen
  clear hc hg ha hR hen
  go_enter Tryz.func23, Tryz.ntmps23
  go_wp2_with fail
  refine ci.mono ?_
  rintro e w1 ⟨rfl, hb1⟩
  go_wp2
  go_ret
  exact ⟨rfl, hb1⟩
/-- 'all' says yes just if there are not too many -/
theorem all12 (g B n cap : Nat) (most : Int) (a : Option Addr) (c0 c1 c2 c3 c4 c5 : Nat → Value) (w : World) (ha : 0 < n → a = some ⟨B, 0, none⟩) (hn : n ≤ 1000)
    (hc : ∀ j, j < n → w.cell? ⟨B, j * 6, none⟩ = some (c0 j) ∧ w.cell? ⟨B, j * 6 + 1, none⟩ = some (c1 j) ∧ w.cell? ⟨B, j * 6 + 2, none⟩ = some (c2 j) ∧ w.cell? ⟨B, j * 6 + 3, none⟩ = some (c3 j) ∧ w.cell? ⟨B, j * 6 + 4, none⟩ = some (c4 j) ∧ w.cell? ⟨B, j * 6 + 5, none⟩ = some (c5 j))
    (hg : ∀ j, j < n → YesD w g (c0 j) (c1 j) (c2 j) (c3 j) (c4 j) (c5 j)) (hen : ∀ args w, (callFunc g args).run Tryz.prog w = .ok (.enter g args) w) :
    Calls Tryz.prog 12 #[.slice a n cap, .int .i64 most, .func (.func g) #[] #[]] w fun e W' => e = .returned (.bool (decide ((n : Int) ≤ most))) ∧ Below w.heap.size w W' := by
  by_cases hm : (n : Int) ≤ most
  · have cc := contains23 g w.heap.size B n cap a c0 c1 c2 c3 c4 c5 (w.alloc (.cells #[.func (.func g) #[] #[]] 53)) ha hn (fun j hj => by
      obtain hq := hc j hj
      have hal : ∀ p v, w.cell? p = some v → (w.alloc (.cells #[.func (.func g) #[] #[]] 53)).cell? p = some v := fun p v h => (((Below.refl w.heap.size w).alloc (Nat.le_refl _) (.cells #[.func (.func g) #[] #[]] 53)).cell (p := p) (World.block_lt_of_cell? w _ h)).trans h
      exact ⟨hal _ _ hq.1, hal _ _ hq.2.1, hal _ _ hq.2.2.1, hal _ _ hq.2.2.2.1, hal _ _ hq.2.2.2.2.1, hal _ _ hq.2.2.2.2.2⟩) (fun j hj => (hg j hj).later ((Below.refl _ _).alloc (Nat.le_refl _) _)) (Boxed.new w 53 _) hen
    clear hc hg ha hen
    go_enter Tryz.func12, Tryz.ntmps12
    go_wp2_with fail
    refine cc.mono ?_
    rintro e w1 ⟨rfl, hb1⟩
    go_wp2
    go_ret
    exact ⟨by simp [hm], ((Below.refl _ _).alloc (Nat.le_refl _) _).trans (hb1.mono (by simp))⟩
  · have hd : decide ((n : Int) ≤ most) = false := by simpa using hm
    clear hc hg ha hen
    go_enter Tryz.func12, Tryz.ntmps12
    go_wp2
    go_ret
    exact ⟨by simp [hm], (Below.refl _ _).alloc (Nat.le_refl _) _⟩


/-- a predicate g says yes of a L in every later world -/
def YesL (w : World) (g : FuncId) (c0 c1 c2 : Value) : Prop := ∀ W, Below w.heap.size w W → Calls Tryz.prog g #[.agg #[c0, c1, c2]] W fun e W' => e = .returned (.bool true) ∧ Below W.heap.size W W'
theorem YesL.later {w w1 : World} {g : FuncId} {c0 c1 c2 : Value} (h : YesL w g c0 c1 c2) (hb : Below w.heap.size w w1) : YesL w1 g c0 c1 c2 := fun W hW => h W (hb.trans (hW.mono hb.size))
set_option maxHeartbeats 400000 in
theorem not27 (g R : Nat) (c0 c1 c2 : Value) (w : World) (hg : YesL w g c0 c1 c2) (hR : Boxed w R 55 (.func (.func g) #[] #[])) (hen : ∀ args w, (callFunc g args).run Tryz.prog w = .ok (.enter g args) w) :
    Calls Tryz.prog 27 #[.agg #[c0, c1, c2], .pointer (some ⟨R, 0, none⟩)] w fun e W' => e = .returned (.bool false) ∧ Below w.heap.size w W' := by
  have h1 := hR.cell
  have h2 := hR.lt
  go_enter Tryz.func27, Tryz.ntmps27
  go_wp2_with fail
  refine (hg _ ((Below.refl _ _).alloc (Nat.le_refl _) _)).mono ?_
  rintro e w' ⟨rfl, hb⟩
  go_wp2_with fail
  go_ret
  exact ⟨rfl, ((Below.refl _ _).alloc (Nat.le_refl _) _).trans (hb.mono (by simp))⟩
set_option maxHeartbeats 400000 in
theorem index47 (g R B n cap : Nat) (a : Option Addr) (c0 c1 c2 : Nat → Value) (w : World) (ha : 0 < n → a = some ⟨B, 0, none⟩) (hn : n ≤ 1000)
    (hc : ∀ j, j < n → w.cell? ⟨B, j * 3, none⟩ = some (c0 j) ∧ w.cell? ⟨B, j * 3 + 1, none⟩ = some (c1 j) ∧ w.cell? ⟨B, j * 3 + 2, none⟩ = some (c2 j))
    (hg : ∀ j, j < n → YesL w g (c0 j) (c1 j) (c2 j)) (hR : Boxed w R 55 (.func (.func g) #[] #[])) (hen : ∀ args w, (callFunc g args).run Tryz.prog w = .ok (.enter g args) w) :
    Calls Tryz.prog 47 #[.slice a n cap, .func (.func 27) #[] #[.pointer (some ⟨R, 0, none⟩)]] w fun e W' => e = .returned (.int .i64 (-1)) ∧ Below w.heap.size w W' := by
  go_enter Tryz.func47, Tryz.ntmps47
  go_wp2
  go_loopw [8] (fun i wr => ∃ k : Nat, k ≤ n ∧ i = .int .i64 k ∧ Below w.heap.size w wr) (fun i _ => n - (intOf i).toNat)
  case atStart => exact ⟨0, by omega, rfl, Below.refl _ _⟩
  case round =>
    obtain ⟨j, hj, rfl, hb⟩ := hrel
    by_cases hlt : j < n
    · obtain rfl := ha (by omega)
      have hcj := hc j hlt
      have hgj := (hg j hlt).later hb
      have hRj : Boxed wr R 55 (.func (.func g) #[] #[]) := (hb.block R hR.lt).trans hR
      have hbc : ∀ o v, w.cell? ⟨B, o, none⟩ = some v → wr.cell? ⟨B, o, none⟩ = some v := fun o v h => (hb.cell (p := ⟨B, o, none⟩) (World.block_lt_of_cell? w _ h)).trans h
      have cl := not27 g R (c0 j) (c1 j) (c2 j) wr hgj hRj hen
      obtain ⟨q0, q1, q2⟩ := hcj
      have q0 := hbc _ _ q0
      have q1 := hbc _ _ q1
      have q2 := hbc _ _ q2
      clear hc hg hbc hgj hRj ha hR
      generalize c0 j = x0 at *
      generalize c1 j = x1 at *
      generalize c2 j = x2 at *
      go_wp2_with fail
      refine cl.mono ?_
      rintro e w1 ⟨rfl, hb1⟩
      go_wp2
      refine ⟨⟨j + 1, by omega, by go_num, hb.trans (hb1.mono hb.size)⟩, by simp [intOf]; omega⟩
    · obtain rfl : j = n := by omega
      clear ha hc hg
      go_wp2
      go_ret
      exact ⟨rfl, hb⟩
theorem contains26 (g R B n cap : Nat) (a : Option Addr) (c0 c1 c2 : Nat → Value) (w : World) (ha : 0 < n → a = some ⟨B, 0, none⟩) (hn : n ≤ 1000)
    (hc : ∀ j, j < n → w.cell? ⟨B, j * 3, none⟩ = some (c0 j) ∧ w.cell? ⟨B, j * 3 + 1, none⟩ = some (c1 j) ∧ w.cell? ⟨B, j * 3 + 2, none⟩ = some (c2 j))
    (hg : ∀ j, j < n → YesL w g (c0 j) (c1 j) (c2 j)) (hR : Boxed w R 55 (.func (.func g) #[] #[])) (hen : ∀ args w, (callFunc g args).run Tryz.prog w = .ok (.enter g args) w) :
    Calls Tryz.prog 26 #[.slice a n cap, .func (.func 27) #[] #[.pointer (some ⟨R, 0, none⟩)]] w fun e W' => e = .returned (.bool false) ∧ Below w.heap.size w W' := by
  have ci := index47 g R B n cap a c0 c1 c2 w ha hn hc hg hR hen
  clear hc hg ha hR hen
  go_enter Tryz.func26, Tryz.ntmps26
  go_wp2_with fail
  refine ci.mono ?_
  rintro e w1 ⟨rfl, hb1⟩
  go_wp2
  go_ret
  exact ⟨rfl, hb1⟩
/-- 'all' says yes just if there are not too many -/
theorem all14 (g B n cap : Nat) (most : Int) (a : Option Addr) (c0 c1 c2 : Nat → Value) (w : World) (ha : 0 < n → a = some ⟨B, 0, none⟩) (hn : n ≤ 1000)
    (hc : ∀ j, j < n → w.cell? ⟨B, j * 3, none⟩ = some (c0 j) ∧ w.cell? ⟨B, j * 3 + 1, none⟩ = some (c1 j) ∧ w.cell? ⟨B, j * 3 + 2, none⟩ = some (c2 j))
    (hg : ∀ j, j < n → YesL w g (c0 j) (c1 j) (c2 j)) (hen : ∀ args w, (callFunc g args).run Tryz.prog w = .ok (.enter g args) w) :
    Calls Tryz.prog 14 #[.slice a n cap, .int .i64 most, .func (.func g) #[] #[]] w fun e W' => e = .returned (.bool (decide ((n : Int) ≤ most))) ∧ Below w.heap.size w W' := by
  by_cases hm : (n : Int) ≤ most
  · have cc := contains26 g w.heap.size B n cap a c0 c1 c2 (w.alloc (.cells #[.func (.func g) #[] #[]] 55)) ha hn (fun j hj => by
      obtain hq := hc j hj
      have hal : ∀ p v, w.cell? p = some v → (w.alloc (.cells #[.func (.func g) #[] #[]] 55)).cell? p = some v := fun p v h => (((Below.refl w.heap.size w).alloc (Nat.le_refl _) (.cells #[.func (.func g) #[] #[]] 55)).cell (p := p) (World.block_lt_of_cell? w _ h)).trans h
      exact ⟨hal _ _ hq.1, hal _ _ hq.2.1, hal _ _ hq.2.2⟩) (fun j hj => (hg j hj).later ((Below.refl _ _).alloc (Nat.le_refl _) _)) (Boxed.new w 55 _) hen
    clear hc hg ha hen
    go_enter Tryz.func14, Tryz.ntmps14
    go_wp2_with fail
    refine cc.mono ?_
    rintro e w1 ⟨rfl, hb1⟩
    go_wp2
    go_ret
    exact ⟨by simp [hm], ((Below.refl _ _).alloc (Nat.le_refl _) _).trans (hb1.mono (by simp))⟩
  · have hd : decide ((n : Int) ≤ most) = false := by simpa using hm
    clear hc hg ha hen
    go_enter Tryz.func14, Tryz.ntmps14
    go_wp2
    go_ret
    exact ⟨by simp [hm], (Below.refl _ _).alloc (Nat.le_refl _) _⟩


/-- a predicate g says yes of a S in every later world -/
def YesS (w : World) (g : FuncId) (c0 : Value) : Prop := ∀ W, Below w.heap.size w W → Calls Tryz.prog g #[c0] W fun e W' => e = .returned (.bool true) ∧ Below W.heap.size W W'
theorem YesS.later {w w1 : World} {g : FuncId} {c0 : Value} (h : YesS w g c0) (hb : Below w.heap.size w w1) : YesS w1 g c0 := fun W hW => h W (hb.trans (hW.mono hb.size))
set_option maxHeartbeats 400000 in
theorem not40 (g R : Nat) (c0 : Value) (w : World) (hg : YesS w g c0) (hR : Boxed w R 65 (.func (.func g) #[] #[])) (hen : ∀ args w, (callFunc g args).run Tryz.prog w = .ok (.enter g args) w) :
    Calls Tryz.prog 40 #[c0, .pointer (some ⟨R, 0, none⟩)] w fun e W' => e = .returned (.bool false) ∧ Below w.heap.size w W' := by
  have h1 := hR.cell
  have h2 := hR.lt
  go_enter Tryz.func40, Tryz.ntmps40
  go_wp2_with fail
  refine (hg _ (Below.refl _ _)).mono ?_
  rintro e w' ⟨rfl, hb⟩
  go_wp2_with fail
  go_ret
  exact ⟨rfl, hb⟩
set_option maxHeartbeats 400000 in
theorem index51 (g R B n cap : Nat) (a : Option Addr) (c0 : Nat → Value) (w : World) (ha : 0 < n → a = some ⟨B, 0, none⟩) (hn : n ≤ 1000)
    (hc : ∀ j, j < n → w.cell? ⟨B, j, none⟩ = some (c0 j))
    (hg : ∀ j, j < n → YesS w g (c0 j)) (hR : Boxed w R 65 (.func (.func g) #[] #[])) (hen : ∀ args w, (callFunc g args).run Tryz.prog w = .ok (.enter g args) w) :
    Calls Tryz.prog 51 #[.slice a n cap, .func (.func 40) #[] #[.pointer (some ⟨R, 0, none⟩)]] w fun e W' => e = .returned (.int .i64 (-1)) ∧ Below w.heap.size w W' := by
  go_enter Tryz.func51, Tryz.ntmps51
  go_wp2
  go_loopw [8] (fun i wr => ∃ k : Nat, k ≤ n ∧ i = .int .i64 k ∧ Below w.heap.size w wr) (fun i _ => n - (intOf i).toNat)
  case atStart => exact ⟨0, by omega, rfl, Below.refl _ _⟩
  case round =>
    obtain ⟨j, hj, rfl, hb⟩ := hrel
    by_cases hlt : j < n
    · obtain rfl := ha (by omega)
      have hcj := hc j hlt
      have hgj := (hg j hlt).later hb
      have hRj : Boxed wr R 65 (.func (.func g) #[] #[]) := (hb.block R hR.lt).trans hR
      have hbc : ∀ o v, w.cell? ⟨B, o, none⟩ = some v → wr.cell? ⟨B, o, none⟩ = some v := fun o v h => (hb.cell (p := ⟨B, o, none⟩) (World.block_lt_of_cell? w _ h)).trans h
      have cl := not40 g R (c0 j) wr hgj hRj hen
      have q0 := hcj
      have q0 := hbc _ _ q0
      clear hc hg hbc hgj hRj ha hR
      generalize c0 j = x0 at *
      go_wp2_with fail
      refine cl.mono ?_
      rintro e w1 ⟨rfl, hb1⟩
      go_wp2
      refine ⟨⟨j + 1, by omega, by go_num, hb.trans (hb1.mono hb.size)⟩, by simp [intOf]; omega⟩
    · obtain rfl : j = n := by omega
      clear ha hc hg
      go_wp2
      go_ret
      exact ⟨rfl, hb⟩
theorem contains39 (g R B n cap : Nat) (a : Option Addr) (c0 : Nat → Value) (w : World) (ha : 0 < n → a = some ⟨B, 0, none⟩) (hn : n ≤ 1000)
    (hc : ∀ j, j < n → w.cell? ⟨B, j, none⟩ = some (c0 j))
    (hg : ∀ j, j < n → YesS w g (c0 j)) (hR : Boxed w R 65 (.func (.func g) #[] #[])) (hen : ∀ args w, (callFunc g args).run Tryz.prog w = .ok (.enter g args) w) :
    Calls Tryz.prog 39 #[.slice a n cap, .func (.func 40) #[] #[.pointer (some ⟨R, 0, none⟩)]] w fun e W' => e = .returned (.bool false) ∧ Below w.heap.size w W' := by
  have ci := index51 g R B n cap a c0 w ha hn hc hg hR hen
  clear hc hg ha hR hen
  go_enter Tryz.func39, Tryz.ntmps39
  go_wp2_with fail
  refine ci.mono ?_
  rintro e w1 ⟨rfl, hb1⟩
  go_wp2
  go_ret
  exact ⟨rfl, hb1⟩
/-- 'all' says yes just if there are not too many -/
theorem all21 (g B n cap : Nat) (most : Int) (a : Option Addr) (c0 : Nat → Value) (w : World) (ha : 0 < n → a = some ⟨B, 0, none⟩) (hn : n ≤ 1000)
    (hc : ∀ j, j < n → w.cell? ⟨B, j, none⟩ = some (c0 j))
    (hg : ∀ j, j < n → YesS w g (c0 j)) (hen : ∀ args w, (callFunc g args).run Tryz.prog w = .ok (.enter g args) w) :
    Calls Tryz.prog 21 #[.slice a n cap, .int .i64 most, .func (.func g) #[] #[]] w fun e W' => e = .returned (.bool (decide ((n : Int) ≤ most))) ∧ Below w.heap.size w W' := by
  by_cases hm : (n : Int) ≤ most
  · have cc := contains39 g w.heap.size B n cap a c0 (w.alloc (.cells #[.func (.func g) #[] #[]] 65)) ha hn (fun j hj => by
      obtain hq := hc j hj
      have hal : ∀ p v, w.cell? p = some v → (w.alloc (.cells #[.func (.func g) #[] #[]] 65)).cell? p = some v := fun p v h => (((Below.refl w.heap.size w).alloc (Nat.le_refl _) (.cells #[.func (.func g) #[] #[]] 65)).cell (p := p) (World.block_lt_of_cell? w _ h)).trans h
      exact hal _ _ hq) (fun j hj => (hg j hj).later ((Below.refl _ _).alloc (Nat.le_refl _) _)) (Boxed.new w 65 _) hen
    clear hc hg ha hen
    go_enter Tryz.func21, Tryz.ntmps21
    go_wp2_with fail
    refine cc.mono ?_
    rintro e w1 ⟨rfl, hb1⟩
    go_wp2
    go_ret
    exact ⟨by simp [hm], ((Below.refl _ _).alloc (Nat.le_refl _) _).trans (hb1.mono (by simp))⟩
  · have hd : decide ((n : Int) ≤ most) = false := by simpa using hm
    clear hc hg ha hen
    go_enter Tryz.func21, Tryz.ntmps21
    go_wp2
    go_ret
    exact ⟨by simp [hm], (Below.refl _ _).alloc (Nat.le_refl _) _⟩
end Go.Proofs.YtfhjffkcobmkaaaGreat
