/- What Decode defers; when an image that was read is right. -/
import Derived.WalkKit
import Derived.Lib.Hide
import Derived.WalkLawsBesides
import Derived.WalkSpells
import Derived.BigQuiet
import Derived.Deep.QuietTactic
import Derived.Handy
import Derived.RangeFuncBox
import Derived.Shelf.Abstract
import Derived.Deep.RegionWith
import Derived.Deep.RegionHeld3
import Derived.StillTailTactics
import Derived.Lib.AppendStr
import Derived.RangeFuncNested
import Derived.RangeFuncBound
import Derived.RangeFuncCalls
import Derived.RangeFuncLeaves
import Derived.Shelf.AbstractIn
import Derived.Shelf.RegionOpen
import Derived.OwnWalkIn
import Derived.TacticsInMore
import Derived.LoopNIn
import Derived.LoopIn
import Derived.LaidEqlPtr
import Derived.Lib.Builder
import Derived.Lib.ConvBytes
import Derived.Maps.AppendAt
import Derived.Deep.DeepCutAuto
import Derived.Defers
import Derived.Recover
import Derived.Test.YtfhjffkcobmkaaaGreatG2
set_option linter.unusedVariables false
set_option linter.unusedSimpArgs false
namespace Go.Proofs.YtfhjffkcobmkaaaGreat
open Go.RowKit
theorem catch16idle (p q : Addr) (w : World) :
    CallsD Tryz.prog 16 #[.pointer (some p), .pointer (some q)] .returning w fun e u' w' => e = .returned (.tuple #[]) ∧ u' = .returning ∧ w' = w := by
  refine callsD_of_wpS Tryz.func16 rfl fun c₀ cs hu => ?_
  apply wpS_seq
  apply wpS_region
  simp [wpOpsS, go_sem, recoverD, hu, Tryz.ntmps16, Exit.thenS]
  apply wpS_seq
  apply wpS_region
  simp [wpOpsS, go_sem, Exit.thenS]
  refine wpS_cond (t := false) (by simp [Act.eval, Array.replicate]) ?_
  simp only [Bool.false_eq_true, if_false]
  refine wpS_of_wp (wp_skip ?_)
  cases c₀
  simp_all [bodyPostS, results, Tryz.results16]
set_option maxRecDepth 100000 in
set_option maxHeartbeats 400000 in
theorem catch16lack (X Y : Nat) (x0 x1 x2 y : Value) (older : List PanicEntry) (w : World) (hx : w.heap[X]? = some (.cells #[x0, x1, x2] 27 (0, 0))) (hy : Boxed w Y 38 y) (hne : X ≠ Y) :
    CallsD Tryz.prog 16 #[.pointer (some ⟨X, 0, none⟩), .pointer (some ⟨Y, 0, none⟩)] (.panicking ({ v := .iface 57 (.agg #[]), recovered := false } :: older)) w fun e u' w' =>
      e = .returned (.tuple #[]) ∧ u' = .panicking ({ v := .iface 57 (.agg #[]), recovered := true } :: older) ∧ w'.heap[X]? = some (.cells #[.slice none 0 0, .slice none 0 0, .slice none 0 0] 27 (0, 0)) ∧ Boxed w' Y 38 (.int .i64 2) ∧ Turns (fun b => b = X ∨ b = Y) w w' := by
  refine callsD_of_wpS Tryz.func16 rfl fun c₀ cs hu => ?_
  apply wpS_seq
  apply wpS_region
  simp [wpOpsS, go_sem, recoverD, hu, Tryz.ntmps16, Exit.thenS]
  refine wpS_of_wp ?_
  simp only [Array.replicate_succ, Array.replicate_zero, List.push_toArray, List.nil_append, List.cons_append, List.setIfInBounds_toArray, List.set_cons_succ, List.set_cons_zero, List.append_toArray]
  generalize hQ : (fun (e : Exit) (a' : Act) (w' : World) => bodyPostS Tryz.prog Tryz.f16 c₀ cs (fun e u' w' => e = Ending.returned (Value.tuple #[]) ∧ u' = FrameMode.panicking ({ v := Value.iface 57 (Value.agg #[]), recovered := true } :: older) ∧ w'.heap[X]? = some (Obj.cells #[Value.slice none 0 0, Value.slice none 0 0, Value.slice none 0 0] 27) ∧ Boxed w' Y 38 (Value.int IntKind.i64 2) ∧ Turns (fun b => b = X ∨ b = Y) w w') e a' ({ fn := c₀.fn, tmps := c₀.tmps, todo := c₀.todo, defers := c₀.defers, mode := FrameMode.panicking ({ v := Value.iface 57 (Value.agg #[]), recovered := true } :: older), kind := c₀.kind, roundOf := c₀.roundOf } :: cs) w') = Q
  have hn : ∀ W : World, (binOp .neq 20 (.iface 57 (.agg #[])) .nilIface).run Tryz.prog W = .ok (.bool true) W := fun _ => by kernel_rfl
  have hta : ∀ W : World, (Instr.typeAssert (.iface 57 (.agg #[])) 20 57 true).run Tryz.prog W = .ok (.tuple #[.agg #[], .bool true]) W := fun _ => by kernel_rfl
  have HQ := Lib.hid hQ
  have hX := Lib.hid hx
  have hY := Lib.hid hy
  obtain ⟨n0, n1, n2⟩ := cells3 hx
  have f0 := unfrozen hx
  have hc := hy.cell
  have fy := hy.frozen
  have lX := (Array.getElem?_eq_some_iff.1 hx).1
  have lY := hy.lt
  have hne' : Y ≠ X := fun e => hne e.symm
  clear hx hy
  clear hQ hu
  go_wp2_with fail
  have t1 : Turns (fun b => b = X ∨ b = Y) w (((((w.setCell ⟨X, 0, none⟩ (.slice none 0 0)).setCell ⟨X, 1, none⟩ (.slice none 0 0)).setCell ⟨X, 2, none⟩ (.slice none 0 0)).setCell ⟨Y, 0, none⟩ (.int .i64 2)).alloc (.cells #[] 57)) :=
    (((((Turns.refl (fun b => b = X ∨ b = Y) w).setCell (b := X) (.inl rfl) 0 _).setCell (b := X) (.inl rfl) 1 _).setCell (b := X) (.inl rfl) 2 _).setCell (b := Y) (.inr rfl) 0 _).alloc _
  have lz : ∀ a b c d, ((((w.setCell ⟨X, 0, none⟩ a).setCell ⟨X, 1, none⟩ b).setCell ⟨X, 2, none⟩ c).setCell ⟨Y, 0, none⟩ d).heap.size = w.heap.size := fun a b c d => by simp [World.setCell]
  have r1 : (((((w.setCell ⟨X, 0, none⟩ (.slice none 0 0)).setCell ⟨X, 1, none⟩ (.slice none 0 0)).setCell ⟨X, 2, none⟩ (.slice none 0 0)).setCell ⟨Y, 0, none⟩ (.int .i64 2)).alloc (.cells #[] 57)).heap[X]? = some (.cells #[.slice none 0 0, .slice none 0 0, .slice none 0 0] 27 (0, 0)) := by
    rw [heap_old _ _ _ (by rw [lz]; exact lX), set1_other _ Y X hne 0 _, setCell_heap (setCell_heap (setCell_heap hX.out 0 _) 1 _) 2 _]; rfl
  have r2 : Boxed (((((w.setCell ⟨X, 0, none⟩ (.slice none 0 0)).setCell ⟨X, 1, none⟩ (.slice none 0 0)).setCell ⟨X, 2, none⟩ (.slice none 0 0)).setCell ⟨Y, 0, none⟩ (.int .i64 2)).alloc (.cells #[] 57)) Y 38 (.int .i64 2) := by
    refine (heap_old _ _ _ (by rw [lz]; exact lY)).trans (Boxed.set _ (v := y) ?_)
    exact (set1_other _ X Y hne' 2 _).trans ((set1_other _ X Y hne' 1 _).trans ((set1_other _ X Y hne' 0 _).trans hY.out))
  rw [← HQ.out]
  cases c₀
  simp only [bodyPostS]
  exact ⟨trivial, _, rfl, _, by simp [results, Tryz.results16], rfl, rfl, r1, r2, t1⟩
/-- a slice of bytes that reads as s -/
def DV (v : Value) (s : ByteArray) (w : World) : Prop :=
  (s.size = 0 ∧ ∃ a c, v = .slice a 0 c) ∨ ∃ Z o c, v = .slice (some ⟨Z, o, none⟩) s.size c ∧ s.size ≤ c ∧ c ≤ maxLen ∧ ∀ j u, (s.data.toList.map u8)[j]? = some u → w.cell? ⟨Z, o + j, none⟩ = some u
theorem DV.of_data {s : ByteArray} {Z c : Nat} {w : World} (h : DataAt s Z c w) : DV (.slice (some ⟨Z, 0, none⟩) s.size c) s w :=
  .inr ⟨Z, 0, c, rfl, h.c1, h.c2, fun j u hj => by rw [Nat.zero_add]; exact h.cells j u hj⟩
theorem DV.conv {v : Value} {s : ByteArray} {w : World} (h : DV v s w) (W : World) (hb : Below w.heap.size w W) : (convert 28 9 v).run Tryz.prog W = .ok (.string s) W := by
  rcases h with ⟨h0, a, c, rfl⟩ | ⟨Z, o, c, rfl, h1, h2, h3⟩
  · have e : s = ⟨#[]⟩ := by
      have : s.data = #[] := Array.eq_empty_of_size_eq_zero h0
      cases s; simp_all
    rw [e]
    exact conv_nil a c W
  · have := conv_row Z c s.data.toList W o s.size (by rw [Array.length_toList]; rfl) (fun j u hj => keepc hb (h3 j u hj))
    simpa using this
theorem DV.form {v : Value} {s : ByteArray} {w : World} (h : DV v s w) : ∃ a n c, v = .slice a n c := by
  rcases h with ⟨h0, a, c, rfl⟩ | ⟨Z, o, c, rfl, h1, h2, h3⟩
  · exact ⟨a, 0, c, by simp⟩
  · exact ⟨_, s.size, c, rfl⟩
/-- what makes an image's maps right -/
def Im.Good (I : Im) : Prop := ∀ j, j < I.nm → (I.kd j = 2 ∧ 1 ≤ I.mx j ∧ I.mx j ≤ 1024 ∧ (I.sf j).size = 0) ∨ (I.kd j = 3 ∧ I.mx j = 2 ∧ ∃ ka va kb vb, ka ≠ kb ∧ I.sf j = ⟨#[ka, va, kb, vb]⟩)
theorem fine_of (I : Im) (code dv : Nat → Value) (w : World) (hg : I.Good) (hctx : ∀ j, j < I.np → I.ctx j ≤ 256) (hver : ∀ j, j < I.nl → I.ver j ≤ 1000) (hc : ∀ j, j < I.np → ∃ a c, code j = .slice a 0 c) (hd : ∀ j, j < I.nm → DV (dv j) (I.sf j) w) : Fine w (I.desc code dv) := by
  refine ⟨fun j hj => ?_, fun j hj => ?_, fun j hj => ?_⟩
  · intro W _
    obtain ⟨a, c, e⟩ := hc j hj
    dsimp only [Im.desc]
    rw [e]
    exact program11 112 ⟨by decide, by decide⟩ a c _ _ (by omega) (by have := hctx j hj; omega) (by omega) (by omega) W
  · dsimp only [Im.desc]
    rcases hg j hj with ⟨h1, h2, h3, h4⟩ | ⟨h1, h2, ka, va, kb, vb, h3, h4⟩
    · have hv : ∃ a c, dv j = .slice a (0 : Nat) c := by
        rcases hd j hj with ⟨_, a, c, e⟩ | ⟨Z, o, c, e, _⟩
        · exact ⟨a, c, e⟩
        · rw [h4] at e; exact ⟨_, c, e⟩
      obtain ⟨a, c, e⟩ := hv
      rw [e, h1]
      exact dump13hash 109 ⟨by decide, by decide⟩ _ ⟨by omega, by omega, by omega, by omega, by omega, by omega, by omega, by omega⟩ a c w
    · rcases hd j hj with ⟨h0, _⟩ | ⟨Z, o, c, e, h5, h6, h7⟩
      · rw [h4] at h0; simp [ByteArray.size] at h0
      · rw [e, h1, h2, h4]
        rw [h4] at h5 h7
        exact dump13lru 109 ⟨by decide, by decide⟩ Z o c ka va kb vb h3 h5 h6 w h7
  · intro W _
    dsimp only [Im.desc]
    exact link15 108 112 ⟨by decide, by decide⟩ ⟨by decide, by decide⟩ _ (by omega) (by have := hver j hj; omega) W
theorem row_cell {w : World} {base g : Nat} {e : TypeId} {s n : Nat} {cap : Nat} {f : Nat → List Value} {a : Option Addr} (h : w.ownsRow base e s (.slice a n cap) n (rowsOf f n)) (hl : ∀ j, j < n → (f j).length = s) (ha : a = some ⟨g, 0, none⟩) (j : Nat) (hj : j < n) (i : Nat) (u : Value) (hi : i < s) (hu : (f j)[i]? = some u) : w.cell? ⟨g, j * s + i, none⟩ = some u := by
  subst ha
  have := h.cells (g := g) rfl (j * s + i) u (rowsOf_at f n s hl j hj i u hi hu)
  have hadd : ∀ k, (⟨g, 0, none⟩ : Addr).add k = ⟨g, k, none⟩ := fun k => by unfold Addr.add; split <;> simp_all
  rw [hadd] at this
  exact this
/-- the block of a row, if there is one -/
def blk : Option Addr → Nat
  | some a => a.block
  | none => 0
theorem row_head {w : World} {base : Nat} {e : TypeId} {s n : Nat} {cap : Nat} {xs : List Value} {a : Option Addr} (h : w.ownsRow base e s (.slice a n cap) n xs) (hn : 0 < n) : a = some ⟨blk a, 0, none⟩ := by
  rcases h.2 with ⟨_, h0⟩ | ⟨g, cp, cur, h0, _⟩
  · omega
  · injection h0 with h1 h2 h3; subst h1; rfl
/-- what was read is an image -/
theorem ReadAt.img {I : Im} {base : Nat} {a0 a1 a2 : Option Addr} {q0 q1 q2 : Nat} {Zp cp Zm cm Zl cl : Nat → Nat} {W : World} (h : ReadAt I base (.slice a0 I.np q0) (.slice a1 I.nm q1) (.slice a2 I.nl q2) Zp cp Zm cm Zl cl W) :
    ImgAt W (I.desc (fun j => .slice (some ⟨Zp j, 0, none⟩) 0 (cp j)) (fun j => .slice (some ⟨Zm j, 0, none⟩) (I.sf j).size (cm j))) (blk a0) (blk a1) (blk a2) := by
  refine ⟨fun j hj => ?_, fun j hj => ?_, fun j hj => ?_⟩
  · have hj' : j < I.np := hj
    have ha := row_head h.o0 (by omega)
    have hc := fun i u hi hu => row_cell h.o0 (fun _ _ => rfl) ha j hj' i u hi hu
    exact ⟨hc 0 _ (by decide) rfl, hc 1 _ (by decide) rfl, hc 2 _ (by decide) rfl, hc 3 _ (by decide) rfl, hc 4 _ (by decide) rfl⟩
  · have hj' : j < I.nm := hj
    have ha := row_head h.o1 (by omega)
    have hc := fun i u hi hu => row_cell h.o1 (fun _ _ => rfl) ha j hj' i u hi hu
    exact ⟨hc 0 _ (by decide) rfl, hc 1 _ (by decide) rfl, hc 2 _ (by decide) rfl, hc 3 _ (by decide) rfl, hc 4 _ (by decide) rfl, hc 5 _ (by decide) rfl⟩
  · have hj' : j < I.nl := hj
    have ha := row_head h.o2 (by omega)
    have hc := fun i u hi hu => row_cell h.o2 (fun _ _ => rfl) ha j hj' i u hi hu
    exact ⟨hc 0 _ (by decide) rfl, hc 1 _ (by decide) rfl, hc 2 _ (by decide) rfl⟩
end Go.Proofs.YtfhjffkcobmkaaaGreat
