/- The fenced walk: a drawn region in text order, a round, the worlds between two blocks. -/
import Derived.WalkKit
import Derived.Lib.Hide
import Derived.WalkLawsBesides
import Derived.WalkSpells
import Derived.BigQuiet
import Derived.Deep.QuietTactic
import Derived.Handy
import Derived.RangeFuncBox
import Derived.Shelf.Abstract
import Derived.Deep.RegionWith
import Derived.Deep.RegionHeld3
import Derived.StillTailTactics
import Derived.Lib.AppendStr
import Derived.RangeFuncNested
import Derived.RangeFuncBound
import Derived.RangeFuncCalls
import Derived.RangeFuncLeaves
import Derived.Shelf.AbstractIn
import Derived.Shelf.RegionOpen
import Derived.OwnWalkIn
import Derived.TacticsInMore
import Derived.LoopNIn
import Derived.LoopIn
import Derived.LaidEqlPtr
import Derived.Lib.Builder
import Derived.Test.YtfhjffkcobmkaaaGreatC1
set_option linter.unusedVariables false
set_option linter.unusedSimpArgs false
namespace Go.Proofs.YtfhjffkcobmkaaaGreat
open Go.RowKit
/-- the wide fence, in a round of the loop ro or in none -/
def Wd (ro : Option Nat) : Fence := { Fence.wide with round := ro }
theorem Wd_none : Wd none = Fence.wide := rfl
theorem Wd_some (l : Nat) : Wd (some l) = Fence.wide.inRound l := rfl
theorem semAt_of_run {ro : Option Nat} {ρ : Operand → Value} {o : Oper} {P : Program} {w w' : World} {x : Next} (hx : ∀ d, x ≠ .defer d) (h : (execOp ρ o).run P w = .ok x w') : (o.semAt ro ρ).run P w = .ok x w' := by
  by_cases hd : ∃ c, o.op = .defer c
  · obtain ⟨c, hc⟩ := hd
    exfalso
    simp only [execOp, hc, Sem.run_bind] at h
    cases hr : (resolve ρ c o.type).run P w with
    | ok d w1 => rw [hr] at h; simp only [Result.andThen] at h; cases h; exact hx _ rfl
    | halt h1 w1 => rw [hr] at h; cases h
  · rw [Oper.semAt_eq ro ρ o (fun c hc => hd ⟨c, hc⟩)]; exact h
theorem callsIn_wd {ro : Option Nat} {n : Nat} {P : Program} {f : FuncId} {args : Array Value} {w : World} {R : Ending → World → Prop} (h : Calls P f args w R) : CallsIn (Wd ro) n P f args w R := callsIn_wide.2 h
theorem wpOpIn_of_stOp {ro : Option Nat} {P : Program} {ops : Array Oper} {w : World} {i : Nat} {a : Act} {K : Act → Prop} {K' : Act → World → Prop} {Q' : Exit → Act → World → Prop} (h : ∀ a, K a → K' a w) (hh : stOp P ops w i K a) :
    wpOpIn (Wd ro) 0 P ops Q' i K' a w := by
  cases hi : ops[i]? with
  | none => unfold wpOpIn; unfold stOp at hh; simp only [hi] at hh ⊢; exact h _ hh
  | some o =>
    obtain ⟨v, hy, hk⟩ := yieldsAt_of_stOp hi hh
    unfold wpOpIn
    simp only [hi]
    rcases hy with ⟨hw, hv | ⟨hv, rfl⟩ | ⟨f, args, hv, hc⟩⟩ | ⟨hw, rfl⟩
    · rw [if_pos hw]
      refine ⟨fun _ _ => trivial, ?_⟩
      rw [semAt_of_run (fun d => by simp) hv]; exact h _ hk
    · rw [if_pos hw]
      refine ⟨fun _ _ => trivial, ?_⟩
      rw [semAt_of_run (fun d => by simp) hv]; exact h _ hk
    · rw [if_pos hw]
      refine ⟨fun _ _ => trivial, ?_⟩
      rw [semAt_of_run (fun d => by simp) hv]
      refine ⟨fun hd => by simp [Wd, Fence.wide] at hd, callsIn_wd (hc.mono ?_)⟩
      rintro e w' ⟨rfl, rfl⟩
      exact h _ hk
    · rw [if_neg (by rw [hw]; simp)]
      exact ⟨fun _ _ => trivial, h _ hk⟩
theorem wpAnyIn_of_head {ro : Option Nat} {P : Program} {md : Region.Mode} {ops : Array Oper} {w : World} {n g : Nat} {L : Array Bool → Act → Prop} {Q' : Exit → Act → World → Prop} (hL : ∀ listed a, L listed a → wpAnyIn (Wd ro) 0 P md ops Q' g listed a w) :
    ∀ (f : Nat) (listed : Array Bool) (a : Act), wpAnyL P md ops w n L f listed a → wpAnyIn (Wd ro) 0 P md ops Q' (f + g) listed a w
  | 0, listed, a, h => by rw [Nat.zero_add]; exact hL _ _ h
  | f + 1, listed, a, h => by
    rw [show f + 1 + g = (f + g) + 1 by omega]
    exact ⟨fun h0 => absurd h0 h.1, fun i hi => wpOpIn_of_stOp (fun a' h' => wpAnyIn_of_head hL f _ a' h') (h.2 i hi).2⟩
theorem wpAnyIn_of_seq {ro : Option Nat} {P : Program} {md : Region.Mode} {ops : Array Oper} {Q' : Exit → Act → World → Prop} : ∀ (l : List Oper) (k : Nat) (listed : Array Bool) (a : Act) (w : World), (∀ j, l[j]? = ops[k + j]?) →
    Region.seqB md ops l.length k listed = true → wpListIn (Wd ro) 0 P ops Q' l a w → wpAnyIn (Wd ro) 0 P md ops Q' l.length listed a w
  | [], _, _, _, _, _, hB, h => ⟨by simpa [Region.seqB] using hB, h⟩
  | o :: l, k, listed, a, w, hl, hB, h => by
    have h0 : ops[k]? = some o := by simpa using (hl 0).symm
    simp only [List.length_cons, Region.seqB, Bool.and_eq_true, decide_eq_true_eq] at hB
    refine ⟨fun h1 => (by rw [hB.1] at h1; cases h1), fun i hi => ?_⟩
    rw [hB.1] at hi
    obtain rfl : i = k := by simpa using hi
    have hw : wpOpIn (Wd ro) 0 P ops Q' i (wpListIn (Wd ro) 0 P ops Q' l) a w := by unfold wpOpIn; simp only [h0]; exact h
    exact wpOpIn_mono (fun a' w' h' => wpAnyIn_of_seq l (i + 1) _ a' w' (fun j => by have := hl (j + 1); simpa [Nat.add_assoc, Nat.add_comm 1 j] using this) hB.2 h') hw
/-- A REGION THAT DRAWS ITS ORDER, all of whose operations but a tail in one order only read: it goes as its text goes. -/
theorem wpIn_region_tail {ro : Option Nat} {P : Program} {id : Nat} {Q : Exit → Act → World → Prop} {a : Act} {w : World} {l : List Oper} (n : Nat) (hm : P.follows .mixedOrders = true) (hB : Region.lexTailB .any l.toArray n = true)
    (h : wpStill P l.toArray w.drew (fun a' => wpListIn (Wd ro) 0 P l.toArray Q (l.drop n) a' w.drew) (l.take n) a) : (Code.region id l.toArray true).wpIn (Wd ro) 0 P Q a w := by
  simp only [Region.lexTailB, Bool.and_eq_true, decide_eq_true_eq] at hB
  obtain ⟨⟨⟨⟨hsel, hn⟩, hs⟩, hc⟩, hlex⟩ := hB
  have hn' : n < l.length := by simpa using hn
  have htl : (l.take n).length = n := by simp; omega
  have hdl : (l.drop n).length = l.toArray.size - n := by simp
  have inv0 : HeadInv .any l.toArray n (Array.replicate l.toArray.size false) :=
    ⟨by simp, fun j oj _ hl => (by rw [getD_replicate_false] at hl; cases hl), fun t _ ht => getD_in (by simpa using ht) (getD_replicate_false _ _)⟩
  have H := wpAnyL_lex (md := .any) (g := l.toArray.size - n) hsel hs hc hn (l.take n) 0 _ a (fun j hj => by
    have hj' : j < n := by rw [htl] at hj; exact hj
    simp [hj']) (by simpa using htl) inv0 (by rw [htl]; exact hlex) h
  refine wpIn_region_any hm ?_
  have := wpAnyIn_of_head (Q' := Q) (ro := ro) (g := l.toArray.size - n) (fun listed a' hL => by
    have := wpAnyIn_of_seq (ro := ro) (md := .any) (Q' := Q) (l.drop n) n listed a' w.drew (fun j => by simp [List.getElem?_drop]) (by rw [hdl]; exact hL.1) hL.2
    rwa [hdl] at this) _ _ _ H
  rw [htl, show n + (l.toArray.size - n) = l.toArray.size by omega] at this
  exact this
/-- What a round's body is walked to: it ends at its end; the record goes back to ready. -/
def RQ (l : Nat) (R : World → Prop) : Exit → Act → World → Prop
  | .normal, _, w => ∃ r, w.heap[l]? = some (.loop r) ∧ R (w.putObj l (.loop { r with state := .ready, pending := none }))
  | _, _, _ => False
theorem round_law {l : Nat} {r : Loop} {args : Array Value} {W : World} {R : World → Prop} (hl : W.heap[l]? = some (.loop r)) (hr : r.state = .ready) (hs : args.size = r.params.size)
    (h : r.assign.wpIn (Wd (some l)) 0 Tryz.prog (Exit.then (fun a w1 => w1.heap[l]? = some (.loop r) ∧ r.body.wpIn (Wd (some l)) 0 Tryz.prog (RQ l R) a (w1.putObj l (.loop { r with state := .busy }))) (fun _ _ _ => False))
      { tmps := (r.params.zip args).foldl (fun tmps (t, a) => tmps.setIfInBounds t a) r.tmps, defers := [] } W) :
    YieldAt Fence.wide 0 Tryz.prog l args W fun e W' => e = .returned (.bool true) ∧ R W' := by
  refine ⟨_, _, _, _, run_yield hl hs, roundIn_of_wpIn trivial ?_⟩
  refine wpIn_mono h ?_
  rintro e a w1 hq
  cases e with
  | normal =>
    obtain ⟨h1, h2⟩ := hq
    refine ⟨_, run_beginRound h1 hr, ?_⟩
    refine wpIn_mono h2 ?_
    rintro e a w2 hq2
    cases e with
    | normal =>
      obtain ⟨r', h3, h4⟩ := hq2
      exact ⟨_, _, run_endRound none h3, rfl, h4⟩
    | _ => exact hq2.elim
  | _ => exact hq.elim
/-- Between A and B a world may have turned; below A and from B on what lay lies. -/
structure Near (A B : Nat) (W W' : World) : Prop where
  size : W.heap.size ≤ W'.heap.size
  same : ∀ k, k < W.heap.size → (k < A ∨ B ≤ k) → W'.heap[k]? = W.heap[k]?
  rest : W'.os = W.os ∧ W'.tape = W.tape ∧ W'.output = W.output
theorem Near.refl (A B : Nat) (W : World) : Near A B W W := ⟨Nat.le_refl _, fun _ _ _ => rfl, rfl, rfl, rfl⟩
theorem Near.trans {A B : Nat} {a b c : World} (h : Near A B a b) (k : Near A B b c) : Near A B a c :=
  ⟨Nat.le_trans h.size k.size, fun i hi hh => (k.same i (Nat.lt_of_lt_of_le hi h.size) hh).trans (h.same i hi hh), k.rest.1.trans h.rest.1, k.rest.2.1.trans h.rest.2.1, k.rest.2.2.trans h.rest.2.2⟩
theorem Near.wider {A B A' B' : Nat} {a b : World} (h : Near A B a b) (h1 : A' ≤ A) (h2 : B ≤ B') : Near A' B' a b :=
  ⟨h.size, fun i hi hh => h.same i hi (by omega), h.rest⟩
theorem Near.alloc {A B : Nat} {a b : World} (h : Near A B a b) (o : Obj) : Near A B a (b.alloc o) :=
  h.trans ⟨by simp, fun k hk _ => Below.heap_alloc _ _ _ hk, rfl, rfl, rfl⟩
theorem Near.putObj {A B : Nat} {a b : World} (h : Near A B a b) {r : Nat} (h1 : A ≤ r) (h2 : r < B) (o : Obj) : Near A B a (b.putObj r o) :=
  h.trans ⟨by simp, fun k hk hh => World.putObj_heap_other (by omega), rfl, rfl, rfl⟩
theorem Near.drew {A B : Nat} {a b : World} (h : Near A B a b) : Near A B a b.drew := ⟨h.size, h.same, h.rest⟩
/-- A yield that takes J to J' and turns none of the blocks A .. B. -/
def Yl (A B l : Nat) (args : Array Value) (J J' : World → Prop) : Prop :=
  ∀ W, J W → B ≤ W.heap.size → YieldAt Fence.wide 0 Tryz.prog l args W fun e W' => e = .returned (.bool true) ∧ (J' W' ∧ W.heap.size ≤ W'.heap.size ∧ ∀ k, A ≤ k → k < B → W'.heap[k]? = W.heap[k]?)
end Go.Proofs.YtfhjffkcobmkaaaGreat
