/- Encode of an image. -/
import Derived.WalkKit
import Derived.Lib.Hide
import Derived.WalkLawsBesides
import Derived.WalkSpells
import Derived.BigQuiet
import Derived.Deep.QuietTactic
import Derived.Handy
import Derived.RangeFuncBox
import Derived.Shelf.Abstract
import Derived.Deep.RegionWith
import Derived.Deep.RegionHeld3
import Derived.StillTailTactics
import Derived.Lib.AppendStr
import Derived.RangeFuncNested
import Derived.RangeFuncBound
import Derived.RangeFuncCalls
import Derived.RangeFuncLeaves
import Derived.Shelf.AbstractIn
import Derived.Shelf.RegionOpen
import Derived.OwnWalkIn
import Derived.TacticsInMore
import Derived.LoopNIn
import Derived.LoopIn
import Derived.LaidEqlPtr
import Derived.Lib.Builder
import Derived.Lib.ConvBytes
import Derived.Maps.AppendAt
import Derived.Deep.DeepCutAuto
import Derived.Defers
import Derived.Recover
import Derived.Test.YtfhjffkcobmkaaaGreatG1
set_option linter.unusedVariables false
set_option linter.unusedSimpArgs false
namespace Go.Proofs.YtfhjffkcobmkaaaGreat
open Go.RowKit
theorem Emp_size : Emp.size = 0 := rfl
theorem progBs_length (c : Nat → Nat) (j : Nat) : (progBs c j).length = 21 := by
  simp only [progBs, List.length_append, tx_length, be4_length, One_size, Emp_size]
theorem dumpBs_length (kd mx : Nat → Nat) (sf : Nat → ByteArray) (j : Nat) : (dumpBs kd mx sf j).length = 25 + (sf j).size := by
  simp only [dumpBs, List.length_append, tx_length, be4_length, One_size]; omega
theorem linkBs_length (ver : Nat → Nat) (j : Nat) : (linkBs ver j).length = 14 := by
  simp only [linkBs, List.length_append, tx_length, be4_length, One_size]
/-- so much is written -/
structure EncSt (w w2 : World) (B : Nat) (pre : List UInt8) (W : World) : Prop where
  wr : Wr W B pre
  below : Below B w2 W
theorem EncSt.next {w w2 : World} {B : Nat} {pre pre' : List UInt8} {W W' : World} (h : EncSt w w2 B pre W) (hw : Wr W' B pre') (hk : WKeep B W W') : EncSt w w2 B pre' W' := ⟨hw, h.below.trans hk.below⟩
set_option maxHeartbeats 2000000 in
set_option maxRecDepth 100000 in
theorem encode5 (I : Im) (hI : I.Ok) (dv : Nat → Value) (B0 B1 B2 q0 q1 q2 : Nat) (a0 a1 a2 : Option Addr) (w : World) (hs : SrcAt I dv B0 B1 B2 a0 a1 a2 w) :
    Calls Tryz.prog 5 #[.agg #[.slice a0 I.np q0, .slice a1 I.nm q1, .slice a2 I.nl q2]] w fun e W => ∃ v, e = .returned (.tuple #[v, .int .i64 0]) ∧ W.ownsRow w.heap.size 5 1 v I.bs.length (I.bs.map u8) ∧ Below w.heap.size w W := by
  have i0 := hI.np
  have i1 := hI.nm
  have i2 := hI.nl
  have hr := Lib.hid (fun W (hb : Below w.heap.size w W) => right6 (I.desc (fun _ => .slice none 0 0) dv) B0 B1 B2 q0 q1 q2 a0 a1 a2 W (hs.img.later hb) (hs.fine.later hb) hs.h0 hs.h1 hs.h2 (by show I.np ≤ 1000; omega) (by show I.nm ≤ 1000; omega) (by show I.nl ≤ 1000; omega))
  have hb0 := (Below.refl w.heap.size w).alloc (Nat.le_refl _) (.cells #[.slice a0 I.np q0, .slice a1 I.nm q1, .slice a2 I.nl q2] 27)
  have hyes : (decide (((I.desc (fun _ => .slice none 0 0) dv).np : Int) ≤ 64) && decide (((I.desc (fun _ => .slice none 0 0) dv).nm : Int) ≤ 64) && decide (((I.desc (fun _ => .slice none 0 0) dv).nl : Int) ≤ 64)) = true := by
    show (decide ((I.np : Int) ≤ 64) && decide ((I.nm : Int) ≤ 64) && decide ((I.nl : Int) ≤ 64)) = true
    rw [decide_eq_true (show (I.np : Int) ≤ 64 by omega), decide_eq_true (show (I.nm : Int) ≤ 64 by omega), decide_eq_true (show (I.nl : Int) ≤ 64 by omega)]; rfl
  have hyes := Lib.hid hyes
  have hb0' := Lib.hid hb0
  have hx := heap_new w (.cells #[.slice a0 I.np q0, .slice a1 I.nm q1, .slice a2 I.nl q2] 27) _ rfl
  have hs' := Lib.hid hs
  have hI' := Lib.hid hI
  clear hs hI hb0
  have hs0 : w.heap.size < (w.alloc (.cells #[.slice a0 I.np q0, .slice a1 I.nm q1, .slice a2 I.nl q2] 27)).heap.size := by simp
  go_enter Tryz.func5, Tryz.ntmps5
  go_wp2_with fail
  generalize w.alloc (.cells #[.slice a0 I.np q0, .slice a1 I.nm q1, .slice a2 I.nl q2] 27) = wa at hx hb0' hs0 ⊢
  refine (hr.out _ hb0'.out).mono ?_
  rintro e w1 ⟨rfl, hb1⟩
  rw [hyes.out]
  have hx1 := (hb1.block _ hs0).trans hx
  have hs1 : w.heap.size < w1.heap.size := by have := hb1.size; omega
  have HB := Lib.hid (hb0'.out.trans (hb1.mono (by omega)))
  have hw2 : Wr (w1.alloc (.cells #[.slice none 0 0] 47)) w1.heap.size [] := ⟨_, Boxed.new _ _ _, World.ownsRow_nil _ _ _ _⟩
  have S0 : EncSt w w1 w1.heap.size [] (w1.alloc (.cells #[.slice none 0 0] 47)) := ⟨hw2, (Below.refl _ _).alloc (Nat.le_refl _) _⟩
  have S0' := Lib.hid S0
  clear S0
  have hz2 : (w1.alloc (.cells #[.slice none 0 0] 47)).heap.size = w1.heap.size + 1 := by simp
  have hX2 := (heap_old w1 (.cells #[.slice none 0 0] 47) w.heap.size hs1).trans hx1
  obtain ⟨n0, n1, n2⟩ := cells3 hx1
  have HZ := Lib.hid hz2
  clear hz2
  clear hx hb1 hb0' hw2 hyes hr hs0
  go_wp2_with fail
  generalize w1.alloc (.cells #[.slice none 0 0] 47) = w2 at S0' HZ hX2 ⊢
  refine (num2 w1.heap.size (w1.heap.size + 1) [] 721 I.np w2 HZ.out.symm S0'.out.wr (by omega) (by omega) (by omega) (by omega) (by simp)).mono ?_
  rintro e w3 ⟨rfl, hw3, hk3⟩
  have S3 := Lib.hid (S0'.out.next hw3 hk3)
  have hX3 := (hk3.below.block _ hs1).trans hX2
  have HZ3 := Lib.hid hk3.below.size
  clear S0' HZ hX2 hw3 hk3 n0 n1 n2
  obtain ⟨n0, n1, n2⟩ := cells3 hX3
  go_wp2_with fail
  have hX1' := Lib.hid hx1
  clear n0 n1 n2 hX3 hx1
  have hcvn : ∀ W : World, (convert 28 9 (.slice none 0 0)).run Tryz.prog W = .ok (.string ⟨#[]⟩) W := fun W => conv_nil none 0 W
  go_loopw [25] (fun i wr => ∃ k : Nat, k ≤ I.np ∧ i = .int .i64 k ∧ EncSt w w1 w1.heap.size ([] ++ (be4 721 ++ be4 I.np) ++ flat (progBs I.ctx) 0 k) wr) (fun i _ => I.np - (intOf i).toNat)
  case atStart => exact ⟨0, by omega, rfl, by simpa [flat] using S3.out⟩
  case round =>
    obtain ⟨k, hk, rfl, hst⟩ := hrel
    have hbw := HB.out.trans (hst.below.mono (by omega))
    by_cases hlt : k < I.np
    · obtain ⟨p0, p1, p2, p3, p4⟩ := hs'.out.img.p k hlt
      have ha0 := hs'.out.h0 (by omega)
      have p0' := keepc hbw p0; have p1' := keepc hbw p1; have p2' := keepc hbw p2; have p3' := keepc hbw p3; have p4' := keepc hbw p4
      clear p0 p1 p2 p3 p4
      dsimp only [Im.desc] at p1' p2' p3'
      subst ha0
      have hL : ([] ++ (be4 721 ++ be4 I.np) ++ flat (progBs I.ctx) 0 k).length ≤ 4000 := by
        have h5 := flat_length (progBs I.ctx) k 21 (fun j hj => by rw [progBs_length]; omega)
        simp only [List.length_append, List.length_nil, be4_length]; omega
      have hcx := hI'.out.ctx k hlt
      have hst' := Lib.hid hst
      generalize hpre : [] ++ (be4 721 ++ be4 I.np) ++ flat (progBs I.ctx) 0 k = pre at hst hst' hL
      have hpre' := Lib.hid hpre
      clear hst hpre hbw
      go_wp2_with fail
      have hY : (wr.alloc (.cells #[.string (One 112), .slice none 0 0, .slice none 0 0, .int .i64 (I.ctx k), .int .i64 0] 31)).heap[wr.heap.size]? = _ := heap_new _ _ _ rfl
      have hzy : (wr.alloc (.cells #[.string (One 112), .slice none 0 0, .slice none 0 0, .int .i64 (I.ctx k), .int .i64 0] 31)).heap.size = wr.heap.size + 1 := by simp
      have hBl : w1.heap.size < wr.heap.size := by obtain ⟨v, hb, _⟩ := hst'.out.wr; exact hb.lt
      have hk4 := Lib.hid (show WKeep w1.heap.size wr _ from WKeep.alloc wr (Nat.le_of_lt hBl) (.cells #[.string (One 112), .slice none 0 0, .slice none 0 0, .int .i64 (I.ctx k), .int .i64 0] 31))
      have hw4 := Lib.hid (hst'.out.wr.box (o := .cells #[.string (One 112), .slice none 0 0, .slice none 0 0, .int .i64 (I.ctx k), .int .i64 0] 31))
      clear p0' p1' p2' p3' p4'
      generalize wr.alloc (.cells #[.string (One 112), .slice none 0 0, .slice none 0 0, .int .i64 (I.ctx k), .int .i64 0] 31) = wy at hY hzy hk4 hw4 ⊢
      have hzy' := Lib.hid hzy
      clear hzy
      refine (text2 w1.heap.size (wr.heap.size + 1) pre (One 112) Emp wy hzy'.out.symm hw4.out (by decide) (by decide) (by omega)).mono ?_
      rintro e w5 ⟨rfl, hw5, hk5⟩
      have hY5 := hk5.other _ _ _ _ hBl hY (by decide)
      have hk5 := Lib.hid (hk4.out.trans hk5)
      have hw5 := Lib.hid hw5
      obtain ⟨n0, n1, n2, n3, n4⟩ := cells5' hY5
      clear hw4 hk4 hY
      go_wp2_with fail
      have hl5 : (pre ++ (tx (One 112) ++ tx Emp)).length ≤ 4100 := by simp only [List.length_append, tx_length, One_size, Emp_size]; omega
      refine (num1 w1.heap.size w5.heap.size _ 0 w5 rfl hw5.out (by omega) (by omega) (by omega)).mono ?_
      rintro e w6 ⟨rfl, hw6, hk6⟩
      have hY6 := hk6.other _ _ _ _ hBl hY5 (by decide)
      have hk6 := Lib.hid (hk5.out.trans hk6)
      have hw6 := Lib.hid hw6
      clear hk5 hw5 hY5 n0 n1 n2 n3 n4
      obtain ⟨n0, n1, n2, n3, n4⟩ := cells5' hY6
      go_wp2_with fail
      refine (texts9_nil _ _).mono ?_
      rintro e w7 ⟨rfl, rfl⟩
      go_wp2_with fail
      have hl6 : ((pre ++ (tx (One 112) ++ tx Emp)) ++ be4 0).length ≤ 4200 := by rw [List.length_append, be4_length]; omega
      refine (num2 w1.heap.size w6.heap.size _ (I.ctx k) 0 w6 rfl hw6.out (by omega) (by omega) (by omega) (by omega) (by omega)).mono ?_
      rintro e w8 ⟨rfl, hw8, hk8⟩
      have hfin := hst'.out.next hw8 (hk6.out.trans hk8)
      have hfin : EncSt w w1 w1.heap.size ([] ++ (be4 721 ++ be4 I.np) ++ flat (progBs I.ctx) 0 (k + 1)) w8 := by
        rw [flat_snoc, ← List.append_assoc, hpre'.out]
        simpa [progBs] using hfin
      have hfin := Lib.hid hfin
      clear hw6 hk6 hY6 n0 n1 n2 n3 n4 hw8 hk8 hst'
      go_wp2_with fail
      refine ⟨⟨k + 1, by omega, by go_num, hfin.out⟩, by simp [intOf]; omega⟩
    · obtain rfl : k = I.np := by omega
      have hst1 := Lib.hid hst
      have hX4 := (hst.below.block _ hs1).trans hX1'.out
      obtain ⟨n0, n1, n2⟩ := cells3 hX4
      clear hst hbw
      have hL1 : ([] ++ (be4 721 ++ be4 I.np) ++ flat (progBs I.ctx) 0 I.np).length ≤ 4000 := by
        have h5 := flat_length (progBs I.ctx) I.np 21 (fun j hj => by rw [progBs_length]; omega)
        simp only [List.length_append, List.length_nil, be4_length]; omega
      generalize hP1 : [] ++ (be4 721 ++ be4 I.np) ++ flat (progBs I.ctx) 0 I.np = P1 at hst1 hL1
      have hP1' := Lib.hid hP1
      clear hP1
      go_wp2_with fail
      refine (num1 w1.heap.size wr.heap.size P1 I.nm wr rfl hst1.out.wr (by omega) (by omega) (by omega)).mono ?_
      rintro e wm ⟨rfl, hwm, hkm⟩
      have hstm := Lib.hid (hst1.out.next hwm hkm)
      have hXm := (hstm.out.below.block _ hs1).trans hX1'.out
      clear n0 n1 n2 hwm hkm hst1 hX4
      obtain ⟨n0, n1, n2⟩ := cells3 hXm
      go_wp2_with fail
      clear n0 n1 n2 hXm
      go_loopw [64] (fun i wr => ∃ k : Nat, k ≤ I.nm ∧ i = .int .i64 k ∧ EncSt w w1 w1.heap.size (P1 ++ be4 I.nm ++ flat (dumpBs I.kd I.mx I.sf) 0 k) wr) (fun i _ => I.nm - (intOf i).toNat)
      case atStart => exact ⟨0, by omega, rfl, by simpa [flat] using hstm.out⟩
      case round =>
        obtain ⟨k, hk, rfl, hst⟩ := hrel
        have hbw := HB.out.trans (hst.below.mono (by omega))
        by_cases hlt : k < I.nm
        · obtain ⟨p0, p1, p2, p3, p4, p5⟩ := hs'.out.img.m k hlt
          have ha0 := hs'.out.h1 (by omega)
          have p0' := keepc hbw p0; have p1' := keepc hbw p1; have p2' := keepc hbw p2; have p3' := keepc hbw p3; have p4' := keepc hbw p4; have p5' := keepc hbw p5
          clear p0 p1 p2 p3 p4 p5
          dsimp only [Im.desc] at p1' p4' p5'
          subst ha0
          have hL : (P1 ++ be4 I.nm ++ flat (dumpBs I.kd I.mx I.sf) 0 k).length ≤ 13000 := by
            have h5 := flat_length (dumpBs I.kd I.mx I.sf) k 125 (fun j hj => by rw [dumpBs_length]; have := hI'.out.sf j (by omega); omega)
            simp only [List.length_append, List.length_nil, be4_length]; omega
          have hcx := hI'.out.kd k hlt
          have hcy := hI'.out.mx k hlt
          have hcz := hI'.out.sf k hlt
          have hcv := Lib.hid (hs'.out.conv k hlt)
          obtain ⟨da, dn, dc, hdv⟩ := hs'.out.form k hlt
          rw [hdv] at hcv p5'
          clear hdv
          have hst' := Lib.hid hst
          generalize hpre : P1 ++ be4 I.nm ++ flat (dumpBs I.kd I.mx I.sf) 0 k = pre at hst hst' hL
          have hpre' := Lib.hid hpre
          clear hst hpre
          have hbw' := Lib.hid hbw
          clear hbw
          go_wp2_with fail
          have hY : (wr.alloc (.cells #[.string (One 109), .int .i64 (I.kd k), .int .i64 1, .int .i64 1, .int .i64 (I.mx k), .slice da dn dc] 35)).heap[wr.heap.size]? = _ := heap_new _ _ _ rfl
          have hzy : (wr.alloc (.cells #[.string (One 109), .int .i64 (I.kd k), .int .i64 1, .int .i64 1, .int .i64 (I.mx k), .slice da dn dc] 35)).heap.size = wr.heap.size + 1 := by simp
          have hBl : w1.heap.size < wr.heap.size := by obtain ⟨v, hb, _⟩ := hst'.out.wr; exact hb.lt
          have hk4 := Lib.hid (show WKeep w1.heap.size wr _ from WKeep.alloc wr (Nat.le_of_lt hBl) (.cells #[.string (One 109), .int .i64 (I.kd k), .int .i64 1, .int .i64 1, .int .i64 (I.mx k), .slice da dn dc] 35))
          have hw4 := Lib.hid (hst'.out.wr.box (o := .cells #[.string (One 109), .int .i64 (I.kd k), .int .i64 1, .int .i64 1, .int .i64 (I.mx k), .slice da dn dc] 35))
          clear p0' p1' p2' p3' p4' p5'
          generalize wr.alloc (.cells #[.string (One 109), .int .i64 (I.kd k), .int .i64 1, .int .i64 1, .int .i64 (I.mx k), .slice da dn dc] 35) = wy at hY hzy hk4 hw4 ⊢
          have hzy' := Lib.hid hzy
          clear hzy
          refine (text1 w1.heap.size (wr.heap.size + 1) pre (One 109) wy hzy'.out.symm hw4.out (by decide) (by omega)).mono ?_
          rintro e w5 ⟨rfl, hw5, hk5⟩
          have hY5 := hk5.other _ _ _ _ hBl hY (by decide)
          have hk5 := Lib.hid (hk4.out.trans hk5)
          have hw5 := Lib.hid hw5
          obtain ⟨n0, n1, n2, n3, n4, n5⟩ := cells6 hY5
          clear hw4 hk4 hY
          go_wp2_with fail
          have hl5 : (pre ++ tx (One 109)).length ≤ 13100 := by simp only [List.length_append, tx_length, One_size]; omega
          refine (num4 w1.heap.size w5.heap.size _ (I.kd k) 1 1 (I.mx k) w5 rfl hw5.out (by omega) (by omega) (by omega) (by omega) (by omega) (by omega) (by omega) (by omega) (by omega)).mono ?_
          rintro e w6 ⟨rfl, hw6, hk6⟩
          have hY6 := hk6.other _ _ _ _ hBl hY5 (by decide)
          have hk6 := Lib.hid (hk5.out.trans hk6)
          have hw6 := Lib.hid hw6
          clear hk5 hw5 hY5 n0 n1 n2 n3 n4 n5
          obtain ⟨n0, n1, n2, n3, n4, n5⟩ := cells6 hY6
          have hcv6 := hcv.out w6 (hbw'.out.trans (hk6.out.below.mono (by omega)))
          go_wp2_with fail
          have hl6 : ((pre ++ tx (One 109)) ++ (be4 (I.kd k) ++ (be4 1 ++ (be4 1 ++ be4 (I.mx k))))).length ≤ 13200 := by simp only [List.length_append, be4_length] at hl5 ⊢; omega
          refine (text1 w1.heap.size w6.heap.size _ (I.sf k) w6 rfl hw6.out hcz (by omega)).mono ?_
          rintro e w8 ⟨rfl, hw8, hk8⟩
          have hfin := hst'.out.next hw8 (hk6.out.trans hk8)
          have hfin : EncSt w w1 w1.heap.size (P1 ++ be4 I.nm ++ flat (dumpBs I.kd I.mx I.sf) 0 (k + 1)) w8 := by
            rw [flat_snoc, ← List.append_assoc (P1 ++ be4 I.nm), hpre'.out]
            simpa [dumpBs] using hfin
          have hfin := Lib.hid hfin
          clear hw6 hk6 hY6 n0 n1 n2 n3 n4 n5 hw8 hk8 hst' hcv6
          go_wp2_with fail
          refine ⟨⟨k + 1, by omega, by go_num, hfin.out⟩, by simp [intOf]; omega⟩
        · obtain rfl : k = I.nm := by omega
          have hst2 := Lib.hid hst
          have hX5 := (hst.below.block _ hs1).trans hX1'.out
          obtain ⟨n0, n1, n2⟩ := cells3 hX5
          clear hst hbw hstm
          have hL2 : (P1 ++ be4 I.nm ++ flat (dumpBs I.kd I.mx I.sf) 0 I.nm).length ≤ 13000 := by
            have h5 := flat_length (dumpBs I.kd I.mx I.sf) I.nm 125 (fun j hj => by rw [dumpBs_length]; have := hI'.out.sf j (by omega); omega)
            simp only [List.length_append, List.length_nil, be4_length]; omega
          generalize hP2 : P1 ++ be4 I.nm ++ flat (dumpBs I.kd I.mx I.sf) 0 I.nm = P2 at hst2 hL2
          have hP2' := Lib.hid hP2
          clear hP2
          go_wp2_with fail
          refine (num1 w1.heap.size wr.heap.size P2 I.nl wr rfl hst2.out.wr (by omega) (by omega) (by omega)).mono ?_
          rintro e wm2 ⟨rfl, hwm, hkm⟩
          have hstm2 := Lib.hid (hst2.out.next hwm hkm)
          have hXm := (hstm2.out.below.block _ hs1).trans hX1'.out
          clear n0 n1 n2 hwm hkm hst2 hX5
          obtain ⟨n0, n1, n2⟩ := cells3 hXm
          go_wp2_with fail
          clear n0 n1 n2 hXm
          go_loopw [105] (fun i wr => ∃ k : Nat, k ≤ I.nl ∧ i = .int .i64 k ∧ EncSt w w1 w1.heap.size (P2 ++ be4 I.nl ++ flat (linkBs I.ver) 0 k) wr) (fun i _ => I.nl - (intOf i).toNat)
          case atStart => exact ⟨0, by omega, rfl, by simpa [flat] using hstm2.out⟩
          case round =>
            obtain ⟨k, hk, rfl, hst⟩ := hrel
            have hbw := HB.out.trans (hst.below.mono (by omega))
            by_cases hlt : k < I.nl
            · obtain ⟨p0, p1, p2⟩ := hs'.out.img.l k hlt
              have ha0 := hs'.out.h2 (by omega)
              have p0' := keepc hbw p0; have p1' := keepc hbw p1; have p2' := keepc hbw p2
              clear p0 p1 p2
              dsimp only [Im.desc] at p2'
              subst ha0
              have hL : (P2 ++ be4 I.nl ++ flat (linkBs I.ver) 0 k).length ≤ 15000 := by
                have h5 := flat_length (linkBs I.ver) k 14 (fun j hj => by rw [linkBs_length]; omega)
                simp only [List.length_append, List.length_nil, be4_length]; omega
              have hcx := hI'.out.ver k hlt
              have hst' := Lib.hid hst
              generalize hpre : P2 ++ be4 I.nl ++ flat (linkBs I.ver) 0 k = pre at hst hst' hL
              have hpre' := Lib.hid hpre
              clear hst hpre hbw
              go_wp2_with fail
              have hY : (wr.alloc (.cells #[.string (One 108), .string (One 112), .int .i64 (I.ver k)] 37)).heap[wr.heap.size]? = _ := heap_new _ _ _ rfl
              have hzy : (wr.alloc (.cells #[.string (One 108), .string (One 112), .int .i64 (I.ver k)] 37)).heap.size = wr.heap.size + 1 := by simp
              have hBl : w1.heap.size < wr.heap.size := by obtain ⟨v, hb, _⟩ := hst'.out.wr; exact hb.lt
              have hk4 := Lib.hid (show WKeep w1.heap.size wr _ from WKeep.alloc wr (Nat.le_of_lt hBl) (.cells #[.string (One 108), .string (One 112), .int .i64 (I.ver k)] 37))
              have hw4 := Lib.hid (hst'.out.wr.box (o := .cells #[.string (One 108), .string (One 112), .int .i64 (I.ver k)] 37))
              clear p0' p1' p2'
              generalize wr.alloc (.cells #[.string (One 108), .string (One 112), .int .i64 (I.ver k)] 37) = wy at hY hzy hk4 hw4 ⊢
              have hzy' := Lib.hid hzy
              clear hzy
              refine (text2 w1.heap.size (wr.heap.size + 1) pre (One 108) (One 112) wy hzy'.out.symm hw4.out (by decide) (by decide) (by omega)).mono ?_
              rintro e w5 ⟨rfl, hw5, hk5⟩
              have hY5 := hk5.other _ _ _ _ hBl hY (by decide)
              have hk5 := Lib.hid (hk4.out.trans hk5)
              have hw5 := Lib.hid hw5
              obtain ⟨n0, n1, n2⟩ := cells3 hY5
              clear hw4 hk4 hY
              go_wp2_with fail
              have hl5 : (pre ++ (tx (One 108) ++ tx (One 112))).length ≤ 15100 := by simp only [List.length_append, tx_length, One_size]; omega
              refine (num1 w1.heap.size w5.heap.size _ (I.ver k) w5 rfl hw5.out (by omega) (by omega) (by omega)).mono ?_
              rintro e w8 ⟨rfl, hw8, hk8⟩
              have hfin := hst'.out.next hw8 (hk5.out.trans hk8)
              have hfin : EncSt w w1 w1.heap.size (P2 ++ be4 I.nl ++ flat (linkBs I.ver) 0 (k + 1)) w8 := by
                rw [flat_snoc, ← List.append_assoc (P2 ++ be4 I.nl), hpre'.out]
                simpa [linkBs] using hfin
              have hfin := Lib.hid hfin
              clear hw5 hk5 hY5 n0 n1 n2 hw8 hk8 hst'
              go_wp2_with fail
              refine ⟨⟨k + 1, by omega, by go_num, hfin.out⟩, by simp [intOf]; omega⟩
            · obtain rfl : k = I.nl := by omega
              have hbs : P2 ++ be4 I.nl ++ flat (linkBs I.ver) 0 I.nl = I.bs := by
                rw [← hP2'.out, ← hP1'.out]
                simp [Im.bs]
              rw [hbs] at hst
              obtain ⟨⟨v, hbv, hrv⟩, hbl⟩ := hst
              obtain ⟨va, vq, rfl⟩ := ownsRow_form hrv
              have hfin := Lib.hid (show _ ∧ _ from ⟨ownsRow_base hrv (b' := w.heap.size) (by omega), hbw⟩)
              have hcv := hbv.cell
              clear hbs hbw hbl hbv hrv hstm2
              go_wp2_with fail
              go_ret2
              exact ⟨_, rfl, hfin.out.1, hfin.out.2⟩
end Go.Proofs.YtfhjffkcobmkaaaGreat
