/- Contracts of the writer: image.writer.numbers appends four bytes for each number, image.writer.texts a length and the bytes for each text; numbers are at most 4096, texts at most 100 bytes. -/
import Derived.WalkKit
import Derived.Lib.Hide
import Derived.WalkLawsBesides
import Derived.WalkSpells
import Derived.BigQuiet
import Derived.Deep.QuietTactic
import Derived.Handy
import Derived.RangeFuncBox
import Derived.Lib.AppendStr
import Derived.Test.YtfhjffkcobmkaaaGreatA1
set_option linter.unusedVariables false
set_option linter.unusedSimpArgs false
namespace Go.Proofs.YtfhjffkcobmkaaaGreat
open Go.RowKit
/-- a byte, a number, as values -/
def u8 (b : UInt8) : Value := .int .u8 b.toNat
/-- a number's four bytes, the highest first -/
def be4 (n : Int) : List UInt8 := [UInt8.ofNat (n.toNat / 16777216), UInt8.ofNat (n.toNat / 65536), UInt8.ofNat (n.toNat / 256), UInt8.ofNat n.toNat]
def bes (ns : List Int) : List UInt8 := ns.flatMap be4
/-- block B is a writer's, its bytes are bs -/
def Wr (w : World) (B : Nat) (bs : List UInt8) : Prop := ∃ v, Boxed w B 47 v ∧ w.ownsRow (B + 1) 5 1 v bs.length (bs.map u8)
/-- whatever lay below B, and whatever is no bytes, lies as it lay -/
structure WKeep (B : Nat) (w w' : World) : Prop where
  below : Below B w w'
  other : ∀ k c e f, B < k → w.heap[k]? = some (.cells c e f) → e ≠ 5 → w'.heap[k]? = some (.cells c e f)
theorem WKeep.refl (B : Nat) (w : World) : WKeep B w w := ⟨Below.refl _ _, fun _ _ _ _ _ h _ => h⟩
theorem WKeep.trans {B : Nat} {a b c : World} (h : WKeep B a b) (k : WKeep B b c) : WKeep B a c :=
  ⟨h.below.trans k.below, fun i c e f hi hc he => k.other i c e f hi (h.other i c e f hi hc he) he⟩
theorem WKeep.of_below {B : Nat} {a b : World} (h : Below a.heap.size a b) (hB : B ≤ a.heap.size) : WKeep B a b :=
  ⟨h.mono hB, fun k c e f _ hc _ => (h.block k (Array.getElem?_eq_some_iff.1 hc).1).trans hc⟩
theorem WKeep.alloc {B : Nat} (a : World) (hB : B ≤ a.heap.size) (o : Obj) : WKeep B a (a.alloc o) := .of_below ((Below.refl _ _).alloc (Nat.le_refl _) _) hB
theorem WKeep.setCell (B : Nat) (a : World) (v : Value) : WKeep B a (a.setCell ⟨B, 0, none⟩ v) :=
  ⟨(Below.refl _ _).setCell (p := ⟨B, 0, none⟩) (Nat.le_refl _) _, fun k c e f hk hc _ => (Below.heap_setCell a ⟨B, 0, none⟩ v k (show k ≠ B by omega)).trans hc⟩
theorem WKeep.row {B base : Nat} {a b : World} {v : Value} {n : Nat} {xs : List Value} (hg : a.grownBy b v.ownBlock) (hr : a.ownsRow base 5 1 v n xs) (hB : B ≤ base) (hs : B ≤ a.heap.size) : WKeep B a b :=
  ⟨(Below.refl _ _).grown hg hs (fun k hk => by have := (hr.lt k hk).1; omega), fun k c e f hk hc he => (hg.block k (Array.getElem?_eq_some_iff.1 hc).1 (by
    rcases hr.2 with ⟨rfl, _⟩ | ⟨g, cap, cur, rfl, _, hgb, _⟩
    · simp [Value.ownBlock]
    · intro e'
      obtain rfl : k = g := by simpa [Value.ownBlock] using e'
      rw [hc] at hgb; cases hgb; exact he rfl)).trans hc⟩
theorem be4_map (x : Int) (h : 0 ≤ x) (h' : x ≤ 4096) : (be4 x).map u8 = [.int .u8 (x / 16777216), .int .u8 (x / 65536), .int .u8 (x / 256), .int .u8 (x % 256)] := by
  obtain ⟨n, rfl⟩ := Int.eq_ofNat_of_zero_le h
  have h1 : n ≤ 4096 := by omega
  simp only [be4, u8, List.map_cons, List.map_nil, Int.toNat_natCast, UInt8.toNat_ofNat']
  have e1 : n / 16777216 % 2 ^ 8 = n / 16777216 := by omega
  have e2 : n / 65536 % 2 ^ 8 = n / 65536 := by omega
  have e3 : n / 256 % 2 ^ 8 = n / 256 := by omega
  rw [e1, e2, e3]
  simp
theorem be4_length (x : Int) : (be4 x).length = 4 := rfl
theorem bes_length (ns : List Int) : (bes ns).length = ns.length * 4 := by
  induction ns with
  | nil => rfl
  | cons a l ih => simp only [bes, List.flatMap_cons, List.length_append, be4_length, List.length_cons] at *; omega
theorem bes_take_succ (ns : List Int) (k : Nat) (h : k < ns.length) : bes (ns.take (k + 1)) = bes (ns.take k) ++ be4 ns[k] := by
  unfold bes
  rw [List.take_succ_eq_append_getElem h, List.flatMap_append]
  simp
theorem cells_new (w : World) (l : List Value) (e : TypeId) (j : Nat) (u : Value) (h : l[j]? = some u) : (w.alloc (.cells l.toArray e)).cell? ((⟨w.heap.size, 0, none⟩ : Addr).add j) = some u := by
  have hadd : (⟨w.heap.size, 0, none⟩ : Addr).add j = ⟨w.heap.size, j, none⟩ := by unfold Addr.add; split <;> simp_all
  rw [hadd]
  have hn : (w.alloc (.cells l.toArray e)).heap[w.heap.size]? = some (.cells l.toArray e) := World.alloc_heap_new w _
  simp only [World.cell?, hn]
  simpa using h
theorem Tryz.info5 : (Tryz.prog.info? 5).map (fun i => (i.zero, i.size, i.bytes)) = some (some (.int .u8 0), 1, 1) := by kernel_rfl
set_option maxHeartbeats 400000 in
set_option maxRecDepth 100000 in
theorem numbers8 (B A c : Nat) (bs : List UInt8) (ns : List Int) (w : World) (hw : Wr w B bs)
    (hA : ∀ (j : Nat) n, ns[j]? = some n → w.cell? ⟨A, j, none⟩ = some (.int .i64 n)) (hAB : ∃ cs f, w.heap[A]? = some (.cells cs 3 f)) (hlt : B < A)
    (hn : ∀ n ∈ ns, 0 ≤ n ∧ n ≤ 4096) (hl : bs.length + ns.length * 4 ≤ 60000) :
    Calls Tryz.prog 8 #[.pointer (some ⟨B, 0, none⟩), .slice (some ⟨A, 0, none⟩) ns.length c] w fun e w' => e = .returned (.tuple #[]) ∧ Wr w' B (bs ++ bes ns) ∧ WKeep B w w' := by
  go_enter Tryz.func8, Tryz.ntmps8
  go_wp2
  go_loopw [8] (fun i wr => ∃ k : Nat, k ≤ ns.length ∧ i = .int .i64 k ∧ Wr wr B (bs ++ bes (ns.take k)) ∧ WKeep B w wr) (fun i _ => ns.length - (intOf i).toNat)
  case atStart => exact ⟨0, by omega, rfl, by simpa [bes] using hw, WKeep.refl _ _⟩
  case round =>
    obtain ⟨k, hk, rfl, ⟨v, hb, hr⟩, hkeep⟩ := hrel

    by_cases hlt2 : k < ns.length
    · have hx : ns[k]? = some ns[k] := by simp [hlt2]
      obtain ⟨cs, f, hcs⟩ := hAB
      have hc1 : wr.cell? ⟨A, k, none⟩ = some (.int .i64 ns[k]) := by
        rw [← hA k _ hx]
        exact World.cell?_of_block (a := ⟨A, k, none⟩) ((hkeep.other A cs 3 f hlt hcs (by decide)).trans hcs.symm)
      have hv := hb.cell
      have hn1 := hn _ (List.getElem_mem hlt2)
      obtain ⟨hn2, hn3⟩ := hn1
      have hm := be4_map _ hn2 hn3
      have hl1 := bes_length (ns.take k)
      have hl2 : (ns.take k).length = k := by simp; omega
      have hs : bs ++ bes (ns.take (k + 1)) = (bs ++ bes (ns.take k)) ++ be4 ns[k] := by rw [bes_take_succ ns k hlt2, List.append_assoc]
      have hsz := hb.lt
      have hll : (bs ++ bes (ns.take k)).length + 4 ≤ 70000 := by rw [List.length_append]; omega
      have hk9 : k ≤ 60000 := by omega
      generalize ns[k] = x at hc1 hn2 hn3 hm hs
      generalize bs ++ bes (ns.take k) = L at hr hs hll
      have hm := Lib.hid hm
      have hs := Lib.hid hs
      clear hA hn hcs hw hl hl1 hl2
      obtain ⟨i0, hi, hz0, hz1, hz2⟩ := info_parts Tryz.info5
      go_wp2_with (at_builtin; refine wpList_append_own _ rfl _ _ 28 rfl (B + 1) 5 i0 (.int .u8 0) 1 1 Tryz.underlying28 hi hz0 hz1 hz2 rfl (by decide) _ _ _ rfl (hr.alloc _) ⟨wr.heap.size, 0, none⟩ 4 4 [.int .u8 (x / 16777216), .int .u8 (x / 65536), .int .u8 (x / 256), .int .u8 (x % 256)] rfl rfl ?c1 ?c2 ?c3 ?c4 ?c5 ?_; rotate_right; intro v' w1 hown' hgrow _; obtain ⟨g', cap', rfl⟩ := ownsRow_succ hown'; have hb1 := (hb.alloc _).kept hgrow (hb.not_row (by decide) hr); have hv1 := hb1.cell; have hf1 := hb1.frozen)
      case c1 => exact fun j u hj => cells_new wr _ 5 j u (by simpa using hj)
      case c2 => intro u hu; simp at hu; rcases hu with rfl | rfl | rfl | rfl <;> rfl
      case c3 => unfold maxLen; omega
      case c4 => omega
      case c5 => simp; omega
      refine ⟨⟨k + 1, by omega, by go_num, ⟨_, hb1.set _, ?_⟩, ?_⟩, by simp [intOf]; omega⟩
      · have h9 := hown'.kept (grownBy_setCell' w1 B (.slice (some ⟨g', 0, none⟩) (L.length + 3 + 1) cap')) (.inr (hb1.not_row (by decide) hown').symm)
        have e9 : (bs ++ bes (ns.take (k + 1))).map u8 = L.map u8 ++ [.int .u8 (x / 16777216), .int .u8 (x / 65536), .int .u8 (x / 256), .int .u8 (x % 256)] := by
          rw [hs.out, List.map_append, hm.out]
        have e8 : (bs ++ bes (ns.take (k + 1))).length = L.length + 4 := by
          rw [hs.out, List.length_append]; rfl
        rw [e8, e9]
        exact h9
      · exact hkeep.trans ((WKeep.alloc wr (by omega) _).trans ((WKeep.row hgrow (hr.alloc _) (by omega) (by simp; omega)).trans (WKeep.setCell _ _ _)))
    · obtain rfl : k = ns.length := by omega
      rw [List.take_length] at hr
      clear hA hAB hn hl
      go_wp2
      go_end0
      exact ⟨rfl, ⟨v, hb, hr⟩, hkeep⟩
/-- a text: how many bytes it has, and they -/
def tx (s : ByteArray) : List UInt8 := be4 s.size ++ s.data.toList
def txs (l : List ByteArray) : List UInt8 := l.flatMap tx
theorem tx_length (s : ByteArray) : (tx s).length = 4 + s.size := by
  simp only [tx, List.length_append, be4_length]; rfl
theorem txs_take_succ (ns : List ByteArray) (k : Nat) (h : k < ns.length) : txs (ns.take (k + 1)) = txs (ns.take k) ++ tx ns[k] := by
  unfold txs
  rw [List.take_succ_eq_append_getElem h, List.flatMap_append]
  simp
theorem txs_length_le (l : List ByteArray) (h : ∀ s ∈ l, s.size ≤ 100) : (txs l).length ≤ l.length * 104 := by
  induction l with
  | nil => simp [txs]
  | cons a l ih =>
    have h1 := h a (by simp)
    have h2 := ih fun s hs => h s (by simp [hs])
    simp only [txs, List.flatMap_cons, List.length_append, tx_length, List.length_cons] at *
    omega
theorem ownsRow_pos {W : World} {base : Nat} {e : TypeId} {size : Nat} {v : Value} {k : Nat} {xs : List Value} (hk : 0 < k) (h : W.ownsRow base e size v k xs) : ∃ g cap, v = .slice (some ⟨g, 0, none⟩) k cap := by
  rcases h.2 with ⟨_, h0⟩ | ⟨g, cap, _, rfl, _⟩
  · omega
  · exact ⟨g, cap, rfl⟩
theorem strCells_u8 (s : ByteArray) : Lib.strCells s = s.data.toList.map u8 := by rfl
theorem Wr.box {w : World} {B : Nat} {bs : List UInt8} {o : Obj} (h : Wr w B bs) : Wr (w.alloc o) B bs := by
  obtain ⟨v, hb, hr⟩ := h; exact ⟨v, hb.alloc _, hr.alloc _⟩
set_option maxHeartbeats 400000 in
set_option maxRecDepth 100000 in
theorem texts9 (B A c : Nat) (bs : List UInt8) (ss : List ByteArray) (w : World) (hw : Wr w B bs)
    (hA : ∀ (j : Nat) s, ss[j]? = some s → w.cell? ⟨A, j, none⟩ = some (.string s)) (hAB : ∃ cs f, w.heap[A]? = some (.cells cs 9 f)) (hlt : B < A)
    (hn : ∀ s ∈ ss, s.size ≤ 100) (hl : bs.length + ss.length * 104 ≤ 60000) :
    Calls Tryz.prog 9 #[.pointer (some ⟨B, 0, none⟩), .slice (some ⟨A, 0, none⟩) ss.length c] w fun e w' => e = .returned (.tuple #[]) ∧ Wr w' B (bs ++ txs ss) ∧ WKeep B w w' := by
  go_enter Tryz.func9, Tryz.ntmps9
  go_wp2
  go_loopw [8] (fun i wr => ∃ k : Nat, k ≤ ss.length ∧ i = .int .i64 k ∧ Wr wr B (bs ++ txs (ss.take k)) ∧ WKeep B w wr) (fun i _ => ss.length - (intOf i).toNat)
  case atStart => exact ⟨0, by omega, rfl, by simpa [txs] using hw, WKeep.refl _ _⟩
  case round =>
    obtain ⟨k, hk, rfl, hwr, hkeep⟩ := hrel
    by_cases hlt2 : k < ss.length
    · have hx : ss[k]? = some ss[k] := by simp [hlt2]
      obtain ⟨cs, f, hcs⟩ := hAB
      have hc1 : wr.cell? ⟨A, k, none⟩ = some (.string ss[k]) := by
        rw [← hA k _ hx]
        exact World.cell?_of_block (a := ⟨A, k, none⟩) ((hkeep.other A cs 9 f hlt hcs (by decide)).trans hcs.symm)
      have hs : bs ++ txs (ss.take (k + 1)) = (bs ++ txs (ss.take k)) ++ tx ss[k] := by rw [txs_take_succ ss k hlt2, List.append_assoc]
      have hsz : B < wr.heap.size := by obtain ⟨v, hb, _⟩ := hwr; exact hb.lt
      have hll : (bs ++ txs (ss.take k)).length + 104 ≤ 60000 := by
        have h1 := txs_length_le (ss.take k) fun s hs => hn s (List.mem_of_mem_take hs)
        have h2 : (ss.take k).length = k := by simp; omega
        rw [List.length_append]; omega
      have hk9 : k ≤ 60000 := by omega
      have hn1 : ss[k].size ≤ 100 := hn _ (List.getElem_mem hlt2)
      generalize ss[k] = x at hc1 hs hn1
      generalize bs ++ txs (ss.take k) = L at hwr hs hll
      have hs := Lib.hid hs
      clear hA hn hcs hw hl
      obtain ⟨i0, hi, hz0, hz1, hz2⟩ := info_parts Tryz.info5
      have c8 := fun W h1 h2 h3 => numbers8 B wr.heap.size 1 L [(x.size : Int)] W h1 h2 h3 hsz (by intro n hn; simp at hn; omega) (by simp; omega)
      go_wp2_with (first | (go_at_call 8; refine (c8 _ ?d1 ?d2 ?d3).mono ?_; rotate_right; rintro e w1 ⟨rfl, ⟨v1, hb1, hr1⟩, hk1⟩; obtain ⟨g1, cap1, rfl⟩ := ownsRow_pos (by simp [bes, be4]) hr1; have hv1 := hb1.cell; have hf1 := hb1.frozen; have hlr : (L ++ bes [(x.size : Int)]).length = L.length + 4 := (by rw [List.length_append]; rfl); rw [hlr] at hr1; generalize hL2 : L ++ bes [(x.size : Int)] = L2 at hr1 hlr; have hL2 := Lib.hid hL2; have hlr := Lib.hid hlr) | (at_builtin; refine Lib.wpList_append_own_string _ rfl _ _ 28 9 rfl (B + 1) 5 i0 Tryz.underlying28 Tryz.underlying9 hi hz0 hz1 hz2 _ _ _ rfl hr1 x rfl ?c1 ?c2 ?c3 ?_; rotate_right; intro v' w2 hown' hgrow _; obtain ⟨g', cap', rfl⟩ := ownsRow_pos (by omega) hown'; have hb2 := hb1.kept hgrow (hb1.not_row (by decide) hr1); have hv2 := hb2.cell; have hf2 := hb2.frozen))
      case c1 => unfold maxLen; omega
      case c2 => omega
      case c3 => exact Nat.succ_le_of_lt hb1.lt
      case d1 => exact hwr.box
      case d2 => intro j n hj; cases j with
        | zero => simp at hj; subst hj; simp
        | succ j => simp at hj
      case d3 => exact ⟨_, _, World.alloc_heap_new _ _⟩
      refine ⟨⟨k + 1, by omega, by go_num, ⟨_, hb2.set _, ?_⟩, ?_⟩, by simp [intOf]; omega⟩
      · have h9 := hown'.kept (grownBy_setCell' w2 B (.slice (some ⟨g', 0, none⟩) (L.length + 4 + x.size) cap')) (.inr (hb2.not_row (by decide) hown').symm)
        have e9 : (bs ++ txs (ss.take (k + 1))) = L2 ++ x.data.toList := by
          rw [hs.out, ← hL2.out, List.append_assoc]; simp [tx, bes]
        have e8 : (bs ++ txs (ss.take (k + 1))).length = L.length + 4 + x.size := by
          rw [e9, List.length_append, hlr.out]; rfl
        rw [e8, e9, List.map_append, ← strCells_u8]
        exact h9
      · exact hkeep.trans ((WKeep.alloc wr (by omega) _).trans (hk1.trans ((WKeep.row hgrow hr1 (by omega) (by have := hb1.lt; omega)).trans (WKeep.setCell _ _ _))))
    · obtain rfl : k = ss.length := by omega
      rw [List.take_length] at hwr
      clear hA hAB hn hl
      go_wp2
      go_end0
      exact ⟨rfl, hwr, hkeep⟩
theorem texts9_nil (p : Value) (w : World) :
    Calls Tryz.prog 9 #[p, .slice none 0 0] w fun e w' => e = .returned (.tuple #[]) ∧ w = w' := by
  go_enter Tryz.func9, Tryz.ntmps9
  go_wp2
  refine wp_loop_rounds 1 ?_
  rw [rounds_succ]
  go_wp2
  go_end0
  exact ⟨rfl, rfl⟩
end Go.Proofs.YtfhjffkcobmkaaaGreat
