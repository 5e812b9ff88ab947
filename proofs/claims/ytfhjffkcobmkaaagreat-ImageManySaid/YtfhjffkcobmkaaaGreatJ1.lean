/- What the law shows first. -/
import Derived.WalkKit
import Derived.Lib.Hide
import Derived.WalkLawsBesides
import Derived.WalkSpells
import Derived.BigQuiet
import Derived.Deep.QuietTactic
import Derived.Handy
import Derived.RangeFuncBox
import Derived.Shelf.Abstract
import Derived.Deep.RegionWith
import Derived.Deep.RegionHeld3
import Derived.StillTailTactics
import Derived.Lib.AppendStr
import Derived.RangeFuncNested
import Derived.RangeFuncBound
import Derived.RangeFuncCalls
import Derived.RangeFuncLeaves
import Derived.Shelf.AbstractIn
import Derived.Shelf.RegionOpen
import Derived.OwnWalkIn
import Derived.TacticsInMore
import Derived.LoopNIn
import Derived.LoopIn
import Derived.LaidEqlPtr
import Derived.Lib.Builder
import Derived.Lib.ConvBytes
import Derived.Maps.AppendAt
import Derived.Deep.DeepCutAuto
import Derived.Defers
import Derived.Recover
import Derived.Lib.SlBytesConst
import Derived.Test.YtfhjffkcobmkaaaGreatH2
set_option linter.unusedVariables false
set_option linter.unusedSimpArgs false
namespace Go.Proofs.YtfhjffkcobmkaaaGreat
open Go.RowKit
def I0 : Im := ⟨0, 0, 0, fun _ => 0, fun _ => 0, fun _ => 0, fun _ => Emp, fun _ => 0⟩
def B1a2 : ByteArray := ⟨#[98, 49, 97, 50]⟩
def I1 : Im := ⟨0, 1, 1, fun _ => 0, fun _ => 3, fun _ => 2, fun _ => B1a2, fun _ => 3⟩
theorem I0ok : I0.Ok := ⟨by decide, by decide, by decide, fun j h => absurd h (Nat.not_lt_zero j), fun j h => absurd h (Nat.not_lt_zero j), fun j h => absurd h (Nat.not_lt_zero j), fun j h => absurd h (Nat.not_lt_zero j), fun j h => absurd h (Nat.not_lt_zero j)⟩
theorem I1ok : I1.Ok := ⟨by decide, by decide, by decide, fun j h => absurd h (Nat.not_lt_zero j), fun j h => by simp [I1], fun j h => by simp [I1], fun j h => by simp [I1]; decide, fun j h => by simp [I1]⟩
theorem I1good : I1.Good := fun j _ => .inr ⟨rfl, rfl, 98, 49, 97, 50, by decide, rfl⟩
theorem I0len : I0.bs.length = 16 := rfl
theorem I1len : I1.bs.length = 59 := by decide
/-- the empty image, to be written -/
theorem src0 (w : World) : SrcAt I0 (fun _ => .slice none 0 0) 0 0 0 none none none w :=
  ⟨⟨fun j h => absurd h (Nat.not_lt_zero j), fun j h => absurd h (Nat.not_lt_zero j), fun j h => absurd h (Nat.not_lt_zero j)⟩,
   ⟨fun j h => absurd h (Nat.not_lt_zero j), fun j h => absurd h (Nat.not_lt_zero j), fun j h => absurd h (Nat.not_lt_zero j)⟩,
   fun j h => absurd h (Nat.not_lt_zero j), fun j h => absurd h (Nat.not_lt_zero j), fun h => absurd h (Nat.lt_irrefl 0), fun h => absurd h (Nat.lt_irrefl 0), fun h => absurd h (Nat.lt_irrefl 0)⟩
theorem enc0 (w : World) : Calls Tryz.prog 5 #[.agg #[.slice none 0 0, .slice none 0 0, .slice none 0 0]] w fun e W => ∃ a q, e = .returned (.tuple #[.slice a 16 q, .int .i64 0]) ∧ Below w.heap.size w W := by
  refine (encode5 I0 I0ok (fun _ => .slice none 0 0) 0 0 0 0 0 0 none none none w (src0 w)).mono ?_
  rintro e W ⟨v, he, ho, hb⟩
  obtain ⟨a, q, rfl⟩ := ownsRow_form ho
  exact ⟨a, q, he, hb⟩
theorem add0 (g j : Nat) : (⟨g, 0, none⟩ : Addr).add j = ⟨g, j, none⟩ := by
  unfold Addr.add; split <;> simp_all
theorem own_cells {W : World} {base n q : Nat} {a : Option Addr} {bs : List UInt8} (h : W.ownsRow base 5 1 (.slice a n q) n (bs.map u8)) (hn : n = bs.length) (hp : 0 < n) : ∃ g, a = some ⟨g, 0, none⟩ ∧ g < W.heap.size ∧ n ≤ q ∧ q ≤ maxLen ∧ ∀ j u, (bs.map u8)[j]? = some u → W.cell? ⟨g, 0 + j, none⟩ = some u := by
  have ha := row_head h hp
  refine ⟨blk a, ha, ?_, ?_, ?_, fun j u hj => ?_⟩
  · rw [ha] at h
    exact (h.lt (blk a) rfl).2
  · rcases h.2 with ⟨_, h0⟩ | ⟨g, cp, cur, h0, _, _, h1, _⟩
    · omega
    · injection h0 with _ _ h3; subst h3; exact h1
  · rcases h.2 with ⟨_, h0⟩ | ⟨g, cp, cur, h0, _, _, _, h1, _⟩
    · omega
    · injection h0 with _ _ h3; subst h3; exact h1
  · rw [ha] at h
    have := h.cells (g := blk a) rfl j u hj
    rw [Nat.zero_add, ← add0]
    exact this
theorem dec_own (I : Im) (hI : I.Ok) (hg : I.Good) (a : Option Addr) (n q base : Nat) (hn : n = I.bs.length) (hp : 0 < n) (W : World) (ho : W.ownsRow base 5 1 (.slice a n q) n (I.bs.map u8)) :
    Calls Tryz.prog 7 #[.slice a n q] W fun e w' => ∃ a0 q0 a1 q1 a2 q2 Zp cp Zm cm Zl cl, e = .returned (.tuple #[.agg #[.slice a0 I.np q0, .slice a1 I.nm q1, .slice a2 I.nl q2], .int .i64 0]) ∧ ReadAt I W.heap.size (.slice a0 I.np q0) (.slice a1 I.nm q1) (.slice a2 I.nl q2) Zp cp Zm cm Zl cl w' ∧ Below W.heap.size W w' := by
  obtain ⟨g, rfl, hl, h1, h2, h3⟩ := own_cells ho hn hp
  have := decode7 I hI hg g 0 q W (by rw [List.append_nil]; omega) h2 hl (by rw [List.append_nil]; exact h3)
  rw [List.append_nil] at this
  rw [hn]
  exact this
theorem dec_more (I : Im) (hI : I.Ok) (hg : I.Good) (b : UInt8) (a : Option Addr) (n q base : Nat) (hn : n = (I.bs ++ [b]).length) (W : World) (ho : W.ownsRow base 5 1 (.slice a n q) n ((I.bs ++ [b]).map u8)) :
    Calls Tryz.prog 7 #[.slice a n q] W fun e w' => e = .returned (.tuple #[.agg #[.slice none 0 0, .slice none 0 0, .slice none 0 0], .int .i64 2]) ∧ Below W.heap.size W w' := by
  obtain ⟨g, rfl, hl, h1, h2, h3⟩ := own_cells ho hn (by rw [hn]; simp)
  have := decode7more I hI hg b [] g 0 q W (by omega) h2 hl h3
  rw [hn]
  exact this

theorem src1 (w : World) (A : Nat) (hl : w.heap[A]? = some (.cells #[.string (One 108), .string (One 112), .int .i64 3] 37 (0, 0))) (hd : w.heap[A + 1]? = some (.cells #[.int .u8 98, .int .u8 49, .int .u8 97, .int .u8 50] 5 (4, 5)))
    (hm : w.heap[A + 1 + 1]? = some (.cells #[.string (One 109), .int .i64 3, .int .i64 1, .int .i64 1, .int .i64 2, .slice (some ⟨A + 1, 0, none⟩) 4 4] 35 (0, 0))) :
    SrcAt I1 (fun _ => .slice (some ⟨A + 1, 0, none⟩) 4 4) 0 (A + 1 + 1) A none (some ⟨A + 1 + 1, 0, none⟩) (some ⟨A, 0, none⟩) w := by
  have hdv : DV (.slice (some ⟨A + 1, 0, none⟩) 4 4) B1a2 w := by
    refine .inr ⟨A + 1, 0, 4, rfl, by decide, by decide, fun j u hj => ?_⟩
    match j with
    | 0 => simp [World.cell?, hd]; exact Option.some.inj hj
    | 1 => simp [World.cell?, hd]; exact Option.some.inj hj
    | 2 => simp [World.cell?, hd]; exact Option.some.inj hj
    | 3 => simp [World.cell?, hd]; exact Option.some.inj hj
    | j + 4 => simp [B1a2] at hj
  refine ⟨⟨fun j h => absurd h (Nat.not_lt_zero j), fun j h => ?_, fun j h => ?_⟩, fine_of I1 _ _ w I1good (fun j h => absurd h (Nat.not_lt_zero j)) (fun j h => by simp [I1]) (fun j h => absurd h (Nat.not_lt_zero j)) (fun j h => hdv), fun j h => hdv.conv, fun j h => ⟨_, 4, 4, rfl⟩, fun h => absurd h (Nat.lt_irrefl 0), fun _ => rfl, fun _ => rfl⟩
  · obtain rfl : j = 0 := by have : j < 1 := h; omega
    exact ⟨by simp [World.cell?, hm], by simp [World.cell?, hm]; rfl, by simp [World.cell?, hm], by simp [World.cell?, hm], by simp [World.cell?, hm]; rfl, by simp [World.cell?, hm]; rfl⟩
  · obtain rfl : j = 0 := by have : j < 1 := h; omega
    exact ⟨by simp [World.cell?, hl], by simp [World.cell?, hl], by simp [World.cell?, hl]; rfl⟩
theorem enc1 (w : World) (A : Nat) (hs : SrcAt I1 (fun _ => .slice (some ⟨A + 1, 0, none⟩) 4 4) 0 (A + 1 + 1) A none (some ⟨A + 1 + 1, 0, none⟩) (some ⟨A, 0, none⟩) w) : Calls Tryz.prog 5 #[.agg #[.slice none 0 0, .slice (some ⟨A + 1 + 1, 0, none⟩) 1 1, .slice (some ⟨A, 0, none⟩) 1 1]] w fun e W => ∃ a q, e = .returned (.tuple #[.slice a 59 q, .int .i64 0]) ∧ W.ownsRow w.heap.size 5 1 (.slice a 59 q) 59 (I1.bs.map u8) ∧ Below w.heap.size w W := by
  refine (encode5 I1 I1ok (fun _ => .slice (some ⟨A + 1, 0, none⟩) 4 4) 0 (A + 1 + 1) A 0 1 1 none (some ⟨A + 1 + 1, 0, none⟩) (some ⟨A, 0, none⟩) w hs).mono ?_
  rintro e W ⟨v, he, ho, hb⟩
  rw [I1len] at ho
  obtain ⟨a, q, rfl⟩ := ownsRow_form ho
  exact ⟨a, q, he, ho, hb⟩
theorem dec1 (a : Option Addr) (q base : Nat) (W : World) (ho : W.ownsRow base 5 1 (.slice a 59 q) 59 (I1.bs.map u8)) :
    Calls Tryz.prog 7 #[.slice a 59 q] W fun e w' => ∃ a0 q0 g1 q1 g2 q2 Z cz, e = .returned (.tuple #[.agg #[.slice a0 0 q0, .slice (some ⟨g1, 0, none⟩) 1 q1, .slice (some ⟨g2, 0, none⟩) 1 q2], .int .i64 0]) ∧ W.heap.size ≤ g1 ∧ W.heap.size ≤ g2 ∧ W.heap.size ≤ Z ∧
      w'.cell? ⟨g1, 5, none⟩ = some (.slice (some ⟨Z, 0, none⟩) 4 cz) ∧ w'.cell? ⟨g2, 2, none⟩ = some (.int .i64 3) ∧ DataAt B1a2 Z cz w' ∧ Below W.heap.size W w' := by
  refine (dec_own I1 I1ok I1good a 59 q base I1len.symm (by omega) W ho).mono ?_
  rintro e w' ⟨a0, q0, a1, q1, a2, q2, Zp, cp, Zm, cm, Zl, cl, rfl, hra, hb⟩
  have hi := hra.img
  have e1 := row_head hra.o1 (show 0 < I1.nm by decide)
  have e2 := row_head hra.o2 (show 0 < I1.nl by decide)
  have g1 := hra.o1.lt (blk a1) (by rw [e1]; rfl)
  have g2 := hra.o2.lt (blk a2) (by rw [e2]; rfl)
  have c1 := (hi.m 0 (show 0 < 1 by decide)).2.2.2.2.2
  have c2 := (hi.l 0 (show 0 < 1 by decide)).2.2
  have hd := hra.data 0 (show 0 < 1 by decide)
  refine ⟨a0, q0, blk a1, q1, blk a2, q2, Zm 0, cm 0, ?_, g1.1, g2.1, hd.2 (by decide), ?_, ?_, hd.1, hb⟩
  · rw [← e1, ← e2]; rfl
  · rw [show (5 : Nat) = 0 * 6 + 5 from rfl]; exact c1
  · rw [show (2 : Nat) = 0 * 3 + 2 from rfl]; exact c2
set_option maxHeartbeats 1000000 in
set_option maxRecDepth 100000 in
theorem shown4 (w : World) : Calls Tryz.prog 4 #[] w fun e w' => e = .returned (.bool true) ∧ Below w.heap.size w w' := by
  go_enter Tryz.func4, Tryz.ntmps4
  go_wp2_with fail
  refine (enc0 _).mono ?_
  rintro e w1 ⟨a, q, rfl, hb1⟩
  have hb1' := Lib.hid hb1
  clear hb1
  have hcc : (convert 28 28 (.slice (some ⟨w1.heap.size + 1, 0, none⟩) 4 4)).run Tryz.prog ((w1.alloc (.cells #[.string ⟨#[108]⟩, .string ⟨#[112]⟩, .int .i64 3] 37)).alloc (.cells #[.int .u8 98, .int .u8 49, .int .u8 97, .int .u8 50] 5)) = .ok (.slice (some ⟨w1.heap.size + 1, 0, none⟩) 4 4) ((w1.alloc (.cells #[.string ⟨#[108]⟩, .string ⟨#[112]⟩, .int .i64 3] 37)).alloc (.cells #[.int .u8 98, .int .u8 49, .int .u8 97, .int .u8 50] 5 (4, 5))) := by
    have h := Lib.run_convert_bytes_const (P := Tryz.prog) (w1.alloc (.cells #[.string ⟨#[108]⟩, .string ⟨#[112]⟩, .int .i64 3] 37)) 28 5 #[.int .u8 98, .int .u8 49, .int .u8 97, .int .u8 50] 4 4 Tryz.underlying28 Tryz.underlying5
    rw [show (w1.alloc (.cells #[.string ⟨#[108]⟩, .string ⟨#[112]⟩, .int .i64 3] 37)).heap.size = w1.heap.size + 1 by simp] at h
    exact h
  go_wp2_with fail
  have hb2 : Below w1.heap.size w1 ((((w1.alloc (.cells #[.string ⟨#[108]⟩, .string ⟨#[112]⟩, .int .i64 3] 37)).alloc (.cells #[.int .u8 98, .int .u8 49, .int .u8 97, .int .u8 50] 5 (4, 5))).alloc (.cells #[.string ⟨#[109]⟩, .int .i64 3, .int .i64 1, .int .i64 1, .int .i64 2, .slice (some ⟨w1.heap.size + 1, 0, none⟩) 4 4] 35)).alloc (.cells #[.slice none 0 0, .slice (some ⟨w1.heap.size + 1 + 1, 0, none⟩) 1 1, .slice (some ⟨w1.heap.size, 0, none⟩) 1 1] 27)) := ((((Below.refl _ _).alloc (Nat.le_refl _) _).alloc (by simp) _).alloc (by simp <;> omega) _).alloc (by simp <;> omega) _
  have hz2 : ((((w1.alloc (.cells #[.string ⟨#[108]⟩, .string ⟨#[112]⟩, .int .i64 3] 37)).alloc (.cells #[.int .u8 98, .int .u8 49, .int .u8 97, .int .u8 50] 5 (4, 5))).alloc (.cells #[.string ⟨#[109]⟩, .int .i64 3, .int .i64 1, .int .i64 1, .int .i64 2, .slice (some ⟨w1.heap.size + 1, 0, none⟩) 4 4] 35)).alloc (.cells #[.slice none 0 0, .slice (some ⟨w1.heap.size + 1 + 1, 0, none⟩) 1 1, .slice (some ⟨w1.heap.size, 0, none⟩) 1 1] 27)).heap.size = w1.heap.size + 4 := by simp
  have hl2 : ((((w1.alloc (.cells #[.string ⟨#[108]⟩, .string ⟨#[112]⟩, .int .i64 3] 37)).alloc (.cells #[.int .u8 98, .int .u8 49, .int .u8 97, .int .u8 50] 5 (4, 5))).alloc (.cells #[.string ⟨#[109]⟩, .int .i64 3, .int .i64 1, .int .i64 1, .int .i64 2, .slice (some ⟨w1.heap.size + 1, 0, none⟩) 4 4] 35)).alloc (.cells #[.slice none 0 0, .slice (some ⟨w1.heap.size + 1 + 1, 0, none⟩) 1 1, .slice (some ⟨w1.heap.size, 0, none⟩) 1 1] 27)).heap[w1.heap.size]? = some (.cells #[.string (One 108), .string (One 112), .int .i64 3] 37 (0, 0)) := (heap_old _ _ _ (by simp <;> omega)).trans ((heap_old _ _ _ (by simp <;> omega)).trans ((heap_old _ _ _ (by simp)).trans (heap_new _ _ _ rfl)))
  have hd2 : ((((w1.alloc (.cells #[.string ⟨#[108]⟩, .string ⟨#[112]⟩, .int .i64 3] 37)).alloc (.cells #[.int .u8 98, .int .u8 49, .int .u8 97, .int .u8 50] 5 (4, 5))).alloc (.cells #[.string ⟨#[109]⟩, .int .i64 3, .int .i64 1, .int .i64 1, .int .i64 2, .slice (some ⟨w1.heap.size + 1, 0, none⟩) 4 4] 35)).alloc (.cells #[.slice none 0 0, .slice (some ⟨w1.heap.size + 1 + 1, 0, none⟩) 1 1, .slice (some ⟨w1.heap.size, 0, none⟩) 1 1] 27)).heap[w1.heap.size + 1]? = some (.cells #[.int .u8 98, .int .u8 49, .int .u8 97, .int .u8 50] 5 (4, 5)) := (heap_old _ _ _ (by simp <;> omega)).trans ((heap_old _ _ _ (by simp)).trans (heap_new _ _ _ (by simp)))
  have hm2 : ((((w1.alloc (.cells #[.string ⟨#[108]⟩, .string ⟨#[112]⟩, .int .i64 3] 37)).alloc (.cells #[.int .u8 98, .int .u8 49, .int .u8 97, .int .u8 50] 5 (4, 5))).alloc (.cells #[.string ⟨#[109]⟩, .int .i64 3, .int .i64 1, .int .i64 1, .int .i64 2, .slice (some ⟨w1.heap.size + 1, 0, none⟩) 4 4] 35)).alloc (.cells #[.slice none 0 0, .slice (some ⟨w1.heap.size + 1 + 1, 0, none⟩) 1 1, .slice (some ⟨w1.heap.size, 0, none⟩) 1 1] 27)).heap[w1.heap.size + 1 + 1]? = some (.cells #[.string (One 109), .int .i64 3, .int .i64 1, .int .i64 1, .int .i64 2, .slice (some ⟨w1.heap.size + 1, 0, none⟩) 4 4] 35 (0, 0)) := (heap_old _ _ _ (by simp)).trans (heap_new _ _ _ (by simp))
  have hx2 : ((((w1.alloc (.cells #[.string ⟨#[108]⟩, .string ⟨#[112]⟩, .int .i64 3] 37)).alloc (.cells #[.int .u8 98, .int .u8 49, .int .u8 97, .int .u8 50] 5 (4, 5))).alloc (.cells #[.string ⟨#[109]⟩, .int .i64 3, .int .i64 1, .int .i64 1, .int .i64 2, .slice (some ⟨w1.heap.size + 1, 0, none⟩) 4 4] 35)).alloc (.cells #[.slice none 0 0, .slice (some ⟨w1.heap.size + 1 + 1, 0, none⟩) 1 1, .slice (some ⟨w1.heap.size, 0, none⟩) 1 1] 27)).heap[w1.heap.size + 1 + 1 + 1]? = some (.cells #[.slice none 0 0, .slice (some ⟨w1.heap.size + 1 + 1, 0, none⟩) 1 1, .slice (some ⟨w1.heap.size, 0, none⟩) 1 1] 27 (0, 0)) := heap_new _ _ _ (by simp)
  clear hcc
  generalize (((w1.alloc (.cells #[.string ⟨#[108]⟩, .string ⟨#[112]⟩, .int .i64 3] 37)).alloc (.cells #[.int .u8 98, .int .u8 49, .int .u8 97, .int .u8 50] 5 (4, 5))).alloc (.cells #[.string ⟨#[109]⟩, .int .i64 3, .int .i64 1, .int .i64 1, .int .i64 2, .slice (some ⟨w1.heap.size + 1, 0, none⟩) 4 4] 35)).alloc (.cells #[.slice none 0 0, .slice (some ⟨w1.heap.size + 1 + 1, 0, none⟩) 1 1, .slice (some ⟨w1.heap.size, 0, none⟩) 1 1] 27) = w2 at hb2 hz2 hl2 hd2 hm2 hx2 ⊢
  have hsrc := Lib.hid (src1 w2 w1.heap.size hl2 hd2 hm2)
  have HZ2 := Lib.hid hz2
  have HB2 := Lib.hid (hb1'.out.trans (hb2.mono hb1'.out.size))
  have HX2 := Lib.hid hx2
  clear hb2 hz2 hl2 hd2 hm2 hx2
  refine (enc1 w2 w1.heap.size hsrc.out).mono ?_
  rintro e w3 ⟨c, cq, rfl, ho3, hb3⟩
  have HX3 := Lib.hid ((hb3.block _ (by have := HZ2.out; omega)).trans HX2.out)
  have HO3 := Lib.hid ho3
  have HB3 := Lib.hid hb3
  clear ho3 hb3
  go_wp2_with fail
  refine (dec1 c cq w2.heap.size w3 HO3.out).mono ?_
  rintro e w4 ⟨a0, q0, g1, q1, g2, q2, Z, cz, rfl, l1, l2, l3, d1, d2, hda, hb4⟩
  have HR4 := Lib.hid (show _ ∧ _ ∧ _ from ⟨d1, d2, hda⟩)
  have HB4 := Lib.hid hb4
  clear d1 d2 hda hb4
  have ho4 := (ownsRow_turned HO3.out (Turns.of_below (S := fun _ => False) HB4.out) (fun k _ e => e)).alloc (.cells #[.slice a0 0 q0, .slice (some ⟨g1, 0, none⟩) 1 q1, .slice (some ⟨g2, 0, none⟩) 1 q2] 27)
  have HO4 := Lib.hid (ho4.alloc (.cells #[.int .u8 0] 5))
  have hz4 : w2.heap.size ≤ w4.heap.size := Nat.le_trans HB3.out.size HB4.out.size
  clear ho4
  obtain ⟨i0, hi, hz0, hz1, hz5⟩ := info_parts Tryz.info5
  go_wp2_with (at_builtin; refine wpList_append_own _ rfl _ _ 28 rfl w2.heap.size 5 i0 (.int .u8 0) 1 1 Tryz.underlying28 hi hz0 hz1 hz5 rfl (by decide) _ _ _ rfl HO4.out ⟨w4.heap.size + 1, 0, none⟩ 1 1 [.int .u8 0] rfl rfl ?c1 ?c2 ?c3 ?c4 ?c5 ?_; rotate_right; intro v' w5 hown' hgrow _; obtain ⟨d, dq, rfl⟩ := ownsRow_form hown')
  case c1 =>
    intro j u hj
    have h := cells_new (w4.alloc (.cells #[.slice a0 0 q0, .slice (some ⟨g1, 0, none⟩) 1 q1, .slice (some ⟨g2, 0, none⟩) 1 q2] 27)) [.int .u8 0] 5 j u hj
    rw [show (w4.alloc (.cells #[.slice a0 0 q0, .slice (some ⟨g1, 0, none⟩) 1 q1, .slice (some ⟨g2, 0, none⟩) 1 q2] 27)).heap.size = w4.heap.size + 1 by simp] at h
    exact h
  case c2 => intro u hu; simp at hu; subst hu; rfl
  case c3 => unfold maxLen; omega
  case c4 => omega
  case c5 => simp; omega
  have hlt := HO3.out.lt
  have hz3 := HB3.out.size
  have hZ4 := HB4.out.size
  have sz4 : ((w4.alloc (.cells #[.slice a0 0 q0, .slice (some ⟨g1, 0, none⟩) 1 q1, .slice (some ⟨g2, 0, none⟩) 1 q2] 27)).alloc (.cells #[.int .u8 0] 5)).heap.size = w4.heap.size + 2 := by simp
  have o5 : ∀ k, k < w4.heap.size + 2 → (k < w2.heap.size ∨ w3.heap.size ≤ k) → w5.heap[k]? = ((w4.alloc (.cells #[.slice a0 0 q0, .slice (some ⟨g1, 0, none⟩) 1 q1, .slice (some ⟨g2, 0, none⟩) 1 q2] 27)).alloc (.cells #[.int .u8 0] 5)).heap[k]? := fun k h1 h2 => hgrow.block k (by rw [sz4]; exact h1) (fun e => by have := hlt k e.symm; omega)
  have o5' : ∀ k, k < w4.heap.size → (k < w2.heap.size ∨ w3.heap.size ≤ k) → w5.heap[k]? = w4.heap[k]? := fun k h1 h2 => (o5 k (by omega) h2).trans ((heap_old _ _ _ (by simp <;> omega)).trans (heap_old _ _ _ h1))
  have hy5 : w5.heap[w4.heap.size]? = some (.cells #[.slice a0 0 q0, .slice (some ⟨g1, 0, none⟩) 1 q1, .slice (some ⟨g2, 0, none⟩) 1 q2] 27 (0, 0)) := (o5 _ (by omega) (.inr hZ4)).trans ((heap_old _ _ _ (by simp)).trans (heap_new _ _ _ rfl))
  have hx5 := (o5' (w1.heap.size + 1 + 1 + 1) (by have := HZ2.out; omega) (.inl (by have := HZ2.out; omega))).trans ((HB4.out.block _ (by have := HZ2.out; omega)).trans HX3.out)
  have hb5 : Below w2.heap.size w2 w5 := by
    have h4 : Below w2.heap.size w2 ((w4.alloc (.cells #[.slice a0 0 q0, .slice (some ⟨g1, 0, none⟩) 1 q1, .slice (some ⟨g2, 0, none⟩) 1 q2] 27)).alloc (.cells #[.int .u8 0] 5)) := ((HB3.out.trans (HB4.out.mono hz3)).alloc hz4 _).alloc (by simp <;> omega) _
    exact ⟨hgrow.os.trans h4.os, hgrow.tape.trans h4.tape, hgrow.output.trans h4.output, Nat.le_trans h4.size hgrow.size, fun k hk => (hgrow.block k (by rw [sz4]; omega) (fun e => by have := hlt k e.symm; omega)).trans (h4.block k hk)⟩
  have hs5 : w4.heap.size + 2 ≤ w5.heap.size := by have := hgrow.size; rw [sz4] at this; exact this
  have lg1 := World.block_lt_of_cell? w4 _ HR4.out.1
  have lg2 := World.block_lt_of_cell? w4 _ HR4.out.2.1
  have lgZ := HR4.out.2.2.lt (by decide)
  have e1 := (World.cell?_of_block (a := ⟨g1, 5, none⟩) (o5' g1 lg1 (.inr l1))).trans HR4.out.1
  have e2 := (World.cell?_of_block (a := ⟨g2, 2, none⟩) (o5' g2 lg2 (.inr l2))).trans HR4.out.2.1
  have e3 := HR4.out.2.2.same (fun _ => o5' Z lgZ (.inr l3))
  have HO5 := Lib.hid (show w5.ownsRow w2.heap.size 5 1 (.slice d 60 dq) 60 ((I1.bs ++ [0]).map u8) by rw [List.map_append]; exact hown')
  have H5 := Lib.hid (show _ ∧ _ ∧ _ ∧ _ ∧ _ ∧ _ from ⟨hy5, hx5, hb5, e1, e2, e3⟩)
  clear hlt hz3 hZ4 sz4 o5 o5' hy5 hx5 hb5 lg1 lg2 lgZ e1 e2 e3 HR4 HO4 HX3 hown' hgrow
  refine (dec_more I1 I1ok I1good 0 d 60 dq w2.heap.size (by rw [List.length_append, I1len]; rfl) w5 HO5.out).mono ?_
  rintro e w6 ⟨rfl, hb6⟩
  obtain ⟨hy5, hx5, hb5, e1, e2, e3⟩ := H5.out
  have HB6 := Lib.hid (hb5.trans (hb6.mono hb5.size))
  have hB67 : Below w5.heap.size w5 (w6.alloc (.cells #[.slice none 0 0, .slice none 0 0, .slice none 0 0] 27)) := hb6.alloc hb6.size _
  have hx7 := (hB67.block _ (Array.getElem?_eq_some_iff.1 hx5).1).trans hx5
  have hy7 := (hB67.block _ (Array.getElem?_eq_some_iff.1 hy5).1).trans hy5
  have e1 := keepc hB67 e1
  have e2 := keepc hB67 e2
  have e3 := e3.same (fun h => hB67.block _ (e3.lt h))
  have hcv : (convert 28 9 (.slice (some ⟨Z, 0, none⟩) 4 cz)).run Tryz.prog (w6.alloc (.cells #[.slice none 0 0, .slice none 0 0, .slice none 0 0] 27)) = .ok (.string ⟨#[98, 49, 97, 50]⟩) (w6.alloc (.cells #[.slice none 0 0, .slice none 0 0, .slice none 0 0] 27)) := conv_row Z cz [98, 49, 97, 50] _ 0 4 rfl (fun j u hj => by rw [Nat.zero_add]; exact e3.cells j u hj)
  obtain ⟨n0, n1, n2⟩ := cells3 hx7
  obtain ⟨m0, m1, m2⟩ := cells3 hy7
  clear hx7 hy7 e3 hB67 hy5 hx5 hb5 hb6 H5 HO5
  go_wp2_with fail
  have hb7 : Below w2.heap.size w2 (w6.alloc (.cells #[.slice none 0 0, .slice none 0 0, .slice none 0 0] 27)) := HB6.out.alloc HB6.out.size _
  have hs := hsrc.out
  refine (right6 (I1.desc (fun _ => .slice none 0 0) (fun _ => .slice (some ⟨w1.heap.size + 1, 0, none⟩) 4 4)) 0 (w1.heap.size + 1 + 1) w1.heap.size 0 1 1 none (some ⟨w1.heap.size + 1 + 1, 0, none⟩) (some ⟨w1.heap.size, 0, none⟩) _ (hs.img.later hb7) (hs.fine.later hb7) hs.h0 hs.h1 hs.h2 (show 0 ≤ 1000 by decide) (show 1 ≤ 1000 by decide) (show 1 ≤ 1000 by decide)).mono ?_
  rintro e w8 ⟨rfl, hb8⟩
  have hfin := Lib.hid (HB2.out.trans ((hb7.trans (hb8.mono hb7.size)).mono HB2.out.size))
  rw [show (decide (((I1.desc (fun _ => .slice none 0 0) (fun _ => .slice (some ⟨w1.heap.size + 1, 0, none⟩) 4 4)).np : Int) ≤ 64) && decide (((I1.desc (fun _ => .slice none 0 0) (fun _ => .slice (some ⟨w1.heap.size + 1, 0, none⟩) 4 4)).nm : Int) ≤ 64) && decide (((I1.desc (fun _ => .slice none 0 0) (fun _ => .slice (some ⟨w1.heap.size + 1, 0, none⟩) 4 4)).nl : Int) ≤ 64)) = true from rfl]
  clear hb7 hb8 hs
  go_wp2_with fail
  go_ret
  exact ⟨rfl, hfin.out⟩
end Go.Proofs.YtfhjffkcobmkaaaGreat
