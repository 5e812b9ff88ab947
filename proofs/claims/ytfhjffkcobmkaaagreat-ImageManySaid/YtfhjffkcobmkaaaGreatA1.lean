/- Contracts of the functions that look at names and at the description of a map: table.within, image.within, strings.indexFunc, IndexFunc, ContainsFunc, table.name, table.Right, image.name, at names of one small letter and at right descriptions of the kinds Hash and LRU. -/
import Derived.WalkKit
import Derived.Lib.Hide
import Derived.WalkLawsBesides
import Derived.WalkSpells
import Derived.BigQuiet
import Derived.Deep.QuietTactic
import Derived.Handy
import Derived.Test.YtfhjffkcobmkaaaGreatProg
set_option linter.unusedVariables false
set_option linter.unusedSimpArgs false
namespace Go.Proofs.YtfhjffkcobmkaaaGreat
open Go.RowKit
theorem within22 (n m : Int) (w : World) :
    Calls Tryz.prog 22 #[.int .i64 n, .int .i64 m] w fun e w' => e = .returned (.bool (decide (0 ≤ n ∧ n ≤ m))) ∧ w' = w := by
  by_cases h : 0 ≤ n
  · go_enter Tryz.func22, Tryz.ntmps22
    go_wp2
    go_ret
    exact ⟨by simp [h], rfl⟩
  · have h' : decide (0 ≤ n) = false := by simpa using h
    go_enter Tryz.func22, Tryz.ntmps22
    go_wp2
    go_ret
    exact ⟨by simp [h], rfl⟩
theorem within50 (n m : Int) (w : World) :
    Calls Tryz.prog 50 #[.int .i64 n, .int .i64 m] w fun e w' => e = .returned (.bool (decide (1 ≤ n ∧ n ≤ m))) ∧ w' = w := by
  by_cases h : 1 ≤ n
  · go_enter Tryz.func50, Tryz.ntmps50
    go_wp2
    go_ret
    exact ⟨by simp [h], rfl⟩
  · have h' : decide (1 ≤ n) = false := by simpa using h
    go_enter Tryz.func50, Tryz.ntmps50
    go_wp2
    go_ret
    exact ⟨by simp [h], rfl⟩
theorem other57 (c : Int) (h : 97 ≤ c) (h' : c ≤ 122) (w : World) :
    Calls Tryz.prog 57 #[.int .i32 c] w fun e w' => e = .returned (.bool false) ∧ w' = w := by
  have h1 : (c != 95) = true := by rw [bne_iff_ne]; omega
  have h2 : decide (c < 48) = false := by simp; omega
  have h3 : decide (57 < c) = true := by simp; omega
  have h4 : decide (c < 65) = false := by simp; omega
  have h5 : decide (90 < c) = true := by simp; omega
  have h6 : decide (c < 97) = false := by simp; omega
  have h7 : decide (122 < c) = false := by simp; omega
  go_enter Tryz.func57, Tryz.ntmps57
  go_wp2
  go_ret
  exact ⟨by simp, rfl⟩
/-- a name of one small letter -/
def One (c : UInt8) : ByteArray := ⟨#[c]⟩
def Letter (c : UInt8) : Prop := 97 ≤ c.toNat ∧ c.toNat ≤ 122
theorem index61 (c : UInt8) (h : Letter c) (w : World) :
    Calls Tryz.prog 61 #[.string (One c), .func (.func 57) #[] #[], .bool true] w fun e w' => e = .returned (.int .i64 (-1)) ∧ Below w.heap.size w w' := by
  obtain ⟨h1, h2⟩ := h
  have hn : ∀ ty, (Instr.next (.pointer (some ⟨w.heap.size, 0, none⟩)) true ty).run Tryz.prog (w.iter (One c) 0) = .ok (.tuple #[.bool true, .int .i64 0, .int .i32 c.toNat]) (w.iter (One c) 1) :=
    fun ty => run_next_ascii (P := Tryz.prog) w (One c) 0 ty (by simp [One, ByteArray.size]) (by show c.toNat < 128; omega)
  have hn2 : ∀ ty, (Instr.next (.pointer (some ⟨w.heap.size, 0, none⟩)) true ty).run Tryz.prog (w.iter (One c) 1) = .ok (.tuple #[.bool false]) (w.iter (One c) 1) :=
    fun ty => run_next_end (P := Tryz.prog) w (One c) 1 ty (by simp [One, ByteArray.size])
  go_enter Tryz.func61, Tryz.ntmps61
  go_wp2
  refine wp_loop_rounds 2 ?_
  rw [rounds_succ]
  go_wp2_with (go_at_call 57; refine (other57 _ (by omega) (by omega) _).mono ?_; rintro e w' ⟨rfl, rfl⟩)
  rw [rounds_succ]
  go_wp2
  go_ret
  exact ⟨rfl, (Below.refl _ _).alloc (Nat.le_refl _) _⟩
theorem index60 (c : UInt8) (h : Letter c) (w : World) :
    Calls Tryz.prog 60 #[.string (One c), .func (.func 57) #[] #[]] w fun e w' => e = .returned (.int .i64 (-1)) ∧ Below w.heap.size w w' := by
  go_enter Tryz.func60, Tryz.ntmps60
  go_wp2_with (go_at_call 61; refine (index61 c h _).mono ?_; rintro e w' ⟨rfl, hb⟩)
  go_ret
  exact ⟨rfl, hb⟩
theorem contains58 (c : UInt8) (h : Letter c) (w : World) :
    Calls Tryz.prog 58 #[.string (One c), .func (.func 57) #[] #[]] w fun e w' => e = .returned (.bool false) ∧ Below w.heap.size w w' := by
  go_enter Tryz.func58, Tryz.ntmps58
  go_wp2_with (go_at_call 60; refine (index60 c h _).mono ?_; rintro e w' ⟨rfl, hb⟩)
  go_ret
  exact ⟨rfl, hb⟩
theorem one_toList (c : UInt8) : (One c).toList = [c] := by
  unfold ByteArray.toList
  unfold ByteArray.toList.loop
  rw [if_pos (show 0 < (One c).size from Nat.one_pos)]
  unfold ByteArray.toList.loop
  rw [if_neg (show ¬ 0 + 1 < (One c).size from Nat.lt_irrefl 1)]
  rfl
theorem name49 (c : UInt8) (h : Letter c) (w : World) :
    Calls Tryz.prog 49 #[.string (One c)] w fun e w' => e = .returned (.bool true) ∧ Below w.heap.size w w' := by
  have h1 : (One c).toList.isEmpty = false := by rw [one_toList]; rfl
  have h2 : (One c).size = 1 := rfl
  go_enter Tryz.func49, Tryz.ntmps49
  go_wp2_with (go_at_call 58; refine (contains58 c h _).mono ?_; rintro e w' ⟨rfl, hb⟩)
  go_ret
  exact ⟨rfl, hb⟩

theorem bcell {W w1 : World} (hb : Below W.heap.size W w1) : (∀ b o, b < W.heap.size → w1.cell? ⟨b, o, none⟩ = W.cell? ⟨b, o, none⟩) ∧ (∀ b o, b < W.heap.size → w1.frozen? ⟨b, o, none⟩ = W.frozen? ⟨b, o, none⟩) :=
  ⟨fun b o h => hb.cell (p := ⟨b, o, none⟩) h, fun b o h => hb.frozen (p := ⟨b, o, none⟩) h⟩
/-- the five cells of a map's description -/
def mapCells (s : ByteArray) (k key v m : Int) : Array Value := #[.string s, .int .i64 k, .int .i64 key, .int .i64 v, .int .i64 m]
structure RightMap (k key v m : Int) : Prop where
  k2 : 2 ≤ k
  k3 : k ≤ 3
  key1 : 1 ≤ key
  key64 : key ≤ 64
  v1 : 1 ≤ v
  v256 : v ≤ 256
  m1 : 1 ≤ m
  m1024 : m ≤ 1024
theorem within50t (n m : Int) (h : 1 ≤ n) (h' : n ≤ m) (w : World) :
    Calls Tryz.prog 50 #[.int .i64 n, .int .i64 m] w fun e w' => e = .returned (.bool true) ∧ w = w' :=
  (within50 n m w).mono fun e w' ⟨he, hw⟩ => ⟨by rw [he]; simp [h, h'], hw.symm⟩
theorem within22t (n m : Int) (h : 0 ≤ n) (h' : n ≤ m) (w : World) :
    Calls Tryz.prog 22 #[.int .i64 n, .int .i64 m] w fun e w' => e = .returned (.bool true) ∧ w = w' :=
  (within22 n m w).mono fun e w' ⟨he, hw⟩ => ⟨by rw [he]; simp [h, h'], hw.symm⟩
theorem right38 (c : UInt8) (hc : Letter c) (k key v m : Int) (h : RightMap k key v m) (w : World) :
    Calls Tryz.prog 38 #[.agg (mapCells (One c) k key v m)] w fun e w' => e = .returned (.bool true) ∧ Below w.heap.size w w' := by
  obtain ⟨h1, h2, h3, h4, h5, h6, h7, h8⟩ := h
  have e1 : decide (1 ≤ k) = true := by simp; omega
  have e2 : decide (k ≤ 3) = true := by simp; omega
  have e3 : (k != 1) = true := by rw [bne_iff_ne]; omega
  unfold mapCells
  go_enter Tryz.func38, Tryz.ntmps38
  go_wp2_with (first | (go_at_call 49; refine (name49 c hc _).mono ?_; rintro e w' ⟨rfl, hb⟩; obtain ⟨hc, hf⟩ := bcell hb) | (go_at_call 50; refine (within50t _ _ (by omega) (by omega) _).mono ?_; rintro e w' ⟨rfl, rfl⟩))
  go_ret
  exact ⟨rfl, (Below.refl _ _).alloc (Nat.le_refl _) _ |>.trans (hb.mono (by simp))⟩
theorem name20 (c : UInt8) (hc : Letter c) (w : World) :
    Calls Tryz.prog 20 #[.string (One c)] w fun e w' => e = .returned (.bool true) ∧ Below w.heap.size w w' := by
  have hr := fun W => right38 c hc 2 1 1 1 ⟨by omega, by omega, by omega, by omega, by omega, by omega, by omega, by omega⟩ W
  unfold mapCells at hr
  go_enter Tryz.func20, Tryz.ntmps20
  go_wp2_with (go_at_call 38; refine (hr _).mono ?_; rintro e w' ⟨rfl, hb⟩)
  go_ret
  exact ⟨rfl, hb⟩
end Go.Proofs.YtfhjffkcobmkaaaGreat
