/- Contracts: how many bytes a number has; a number's bytes, laid behind none or eight. Contract: an address's bytes, by the program. Contract: a prefix's bytes, by the program. -/
import Derived.Test.YtdpcmokemjfelaaGreatDoorMB
import Derived.Test.YtdpcmokemjfelaaGreatDoorBytesA
import Derived.Test.YtdpcmokemjfelaaGreatDoorPrefixText
import Derived.LoopN
import Derived.Laws.CopyOwn
import Derived.Deep.AppendLies
namespace Go.Proofs.YtdpcmokemjfelaaGreatDoor.Pf
open Go.RowKit Go.Proofs.YtdpcmokemjfelaaGreatDoor.Wd Go.Proofs.YtdpcmokemjfelaaGreatDoor.Px Go.Proofs.YtdpcmokemjfelaaGreatDoor.By

/-- cells of a number's bytes, as the program's loop leaves them -/
def cells4 (x : Int) : List Value := [.int .u8 (x / 16777216), .int .u8 (x / 65536 % 256), .int .u8 (x / 256 % 256), .int .u8 (x % 256)]
def cells8 (x : Int) : List Value := [.int .u8 (x / 72057594037927936), .int .u8 (x / 281474976710656 % 256), .int .u8 (x / 1099511627776 % 256), .int .u8 (x / 4294967296 % 256), .int .u8 (x / 16777216 % 256), .int .u8 (x / 65536 % 256), .int .u8 (x / 256 % 256), .int .u8 (x % 256)]
theorem celv (k : Nat) (h : k < 256) : cel (UInt8.ofNat k) = .int .u8 (k : Int) := by
  unfold cel
  rw [UInt8.toNat_ofNat', Nat.mod_eq_of_lt (by omega)]
theorem cells4_eq (x : Nat) (h : x < 4294967296) : (be 4 x).map cel = cells4 x := by
  simp only [be, dgs, List.nil_append, List.cons_append, List.map_cons, List.map_nil, cells4]
  repeat rw [celv _ (by omega)]
  simp only [List.cons.injEq, Value.int.injEq, true_and, and_true]
  refine ⟨?_, ?_, ?_, ?_⟩ <;> omega
theorem cells8_eq (x : Nat) (h : x < 18446744073709551616) : (be 8 x).map cel = cells8 x := by
  simp only [be, dgs, List.nil_append, List.cons_append, List.map_cons, List.map_nil, cells8]
  repeat rw [celv _ (by omega)]
  simp only [List.cons.injEq, Value.int.injEq, true_and, and_true]
  refine ⟨?_, ?_, ?_, ?_, ?_, ?_, ?_, ?_⟩ <;> omega
theorem Tryz.sizeB : (Tryz.prog.info? 5).map (·.size) = some 1 := by kernel_rfl

theorem set_tail8 (l : List Value) (a b c d e f g h : Value) (hl : l.length = 8) : ((((((((l ++ ([.int .u8 0, .int .u8 0, .int .u8 0, .int .u8 0, .int .u8 0, .int .u8 0, .int .u8 0, .int .u8 0] : List Value)).set 15 a).set 14 b).set 13 c).set 12 d).set 11 e).set 10 f).set 9 g).set 8 h = l ++ [h, g, f, e, d, c, b, a] := by
  match l, hl with
  | [x0, x1, x2, x3, x4, x5, x6, x7], _ => rfl
theorem own_tail8 {w : World} {base g : Nat} {l : List UInt8} (hl : l.length = 8) (HO : w.ownsRow base 5 1 (.slice (some ⟨g, 0, none⟩) 16 16) 16 (l.map cel ++ [.int .u8 0, .int .u8 0, .int .u8 0, .int .u8 0, .int .u8 0, .int .u8 0, .int .u8 0, .int .u8 0])) (a b c d e f h i : Value) :
    ((((((((w.setCell ⟨g, 15, none⟩ a).setCell ⟨g, 14, none⟩ b).setCell ⟨g, 13, none⟩ c).setCell ⟨g, 12, none⟩ d).setCell ⟨g, 11, none⟩ e).setCell ⟨g, 10, none⟩ f).setCell ⟨g, 9, none⟩ h).setCell ⟨g, 8, none⟩ i).ownsRow base 5 1 (.slice (some ⟨g, 0, none⟩) 16 16) 16 (l.map cel ++ [i, h, f, e, d, c, b, a]) := by
  have hfin := ((((((((HO.stored 15 a).1.stored 14 b).1.stored 13 c).1.stored 12 d).1.stored 11 e).1.stored 10 f).1.stored 9 h).1.stored 8 i).1
  rw [set_tail8 (l.map cel) a b c d e f h i (by simpa using hl)] at hfin
  exact hfin

end Go.Proofs.YtdpcmokemjfelaaGreatDoor.Pf

namespace Go.Proofs.YtdpcmokemjfelaaGreatDoor.Pf
open Go.RowKit Go.Proofs.YtdpcmokemjfelaaGreatDoor.Wd Go.Proofs.YtdpcmokemjfelaaGreatDoor.Px Go.Proofs.YtdpcmokemjfelaaGreatDoor.By

theorem own_slice {w : World} {base : Nat} {e : TypeId} {n : Nat} {v : Value} {xs : List Value} (h : w.ownsRow base e 1 v n xs) : ∃ A c, v = .slice A n c := by
  rcases h.2 with ⟨rfl, rfl⟩ | ⟨g, cap, _, rfl, _⟩
  · have := h.1
    simp at this
    subst this
    exact ⟨_, _, rfl⟩
  · exact ⟨_, _, rfl⟩
theorem own_shows {w : World} {base : Nat} {A : Option Addr} {n c : Nat} {l : List UInt8} (h : w.ownsRow base 5 1 (.slice A n c) n (l.map cel)) : Shows cel w w.heap.size A l := by
  have hn : l.length = n := by have := h.1; simpa using this
  subst hn
  exact Shows.of_own h

/-- an address's bytes -/
def paB (f : Int) (hi lo : Nat) : List UInt8 := if vA f hi lo = true then (if f = 4 then be 4 lo else be 8 hi ++ be 8 lo) else []
theorem paB_no {f : Int} {hi lo : Nat} (h : vA f hi lo = false) : paB f hi lo = [] := by unfold paB; rw [if_neg (by simp [h])]
theorem paB_4 {lo : Nat} (h : lo < 4294967296) : paB 4 0 lo = be 4 lo := by
  have : vA 4 0 lo = true := by rw [vA_iff]; exact .inr ⟨rfl, rfl, h⟩
  simp [paB, this]
theorem paB_6 (hi lo : Nat) : paB 6 hi lo = be 8 hi ++ be 8 lo := by
  have : vA 6 hi lo = true := by rw [vA_iff]; exact .inl rfl
  simp [paB, this]
theorem paB_len (f : Int) (hi lo : Nat) : (paB f hi lo).length ≤ 16 := by
  unfold paB
  split
  · split
    · rw [be_len]; omega
    · rw [List.length_append, be_len, be_len]; omega
  · simp

theorem keepA {w W W' : World} {B : Nat} {f : Int} {hi lo : Nat} (h : W.cell? ⟨B, 0, none⟩ = some (.int .i64 f) ∧ W.cell? ⟨B, 1, none⟩ = some (.int .u64 hi) ∧ W.cell? ⟨B, 2, none⟩ = some (.int .u64 lo) ∧ Below w.heap.size w W) (hb : Below W.heap.size W W') :
    W'.cell? ⟨B, 0, none⟩ = some (.int .i64 f) ∧ W'.cell? ⟨B, 1, none⟩ = some (.int .u64 hi) ∧ W'.cell? ⟨B, 2, none⟩ = some (.int .u64 lo) ∧ Below w.heap.size w W' :=
  ⟨keepc hb h.1, keepc hb h.2.1, keepc hb h.2.2.1, h.2.2.2.trans (hb.mono h.2.2.2.size)⟩

end Go.Proofs.YtdpcmokemjfelaaGreatDoor.Pf

namespace Go.Proofs.YtdpcmokemjfelaaGreatDoor.Pf
open Go.RowKit Go.Proofs.YtdpcmokemjfelaaGreatDoor.Wd Go.Proofs.YtdpcmokemjfelaaGreatDoor.Px Go.Proofs.YtdpcmokemjfelaaGreatDoor.By

/-- a prefix's bytes -/
def pB (f : Int) (hi lo : Nat) (b : Int) : List UInt8 := if vP f hi lo b = true then UInt8.ofNat f.toNat :: UInt8.ofNat b.toNat :: paB f hi lo else []
theorem pB_no {f : Int} {hi lo : Nat} {b : Int} (h : vP f hi lo b = false) : pB f hi lo b = [] := by unfold pB; rw [if_neg (by simp [h])]
theorem pB_yes {f : Int} {hi lo : Nat} {b : Int} (h : vP f hi lo b = true) : pB f hi lo b = UInt8.ofNat f.toNat :: UInt8.ofNat b.toNat :: paB f hi lo := by unfold pB; rw [if_pos h]
theorem pB_len (f : Int) (hi lo : Nat) (b : Int) : (pB f hi lo b).length ≤ 18 := by
  unfold pB
  split
  · have := paB_len f hi lo; simp; omega
  · simp

theorem own2A {W w2 : World} {base : Nat} {a b : Value} (hb : Below (W.alloc (.cells #[a, b] 5)).drew.heap.size (W.alloc (.cells #[a, b] 5)).drew w2) (hB : base ≤ W.heap.size) : w2.ownsRow base 5 1 (.slice (some ⟨W.heap.size, 0, none⟩) 2 2) 2 [a, b] :=
  own_on (own_on (World.ownsRow_lit W #[a, b] 2 hB (by decide) rfl) (Below.refl _ _).drew) hb
theorem own2B {W : World} {base : Nat} {a b : Value} (hB : base ≤ W.heap.size) : (W.alloc (.cells #[a, b] 5)).ownsRow base 5 1 (.slice (some ⟨W.heap.size, 0, none⟩) 2 2) 2 [a, b] :=
  World.ownsRow_lit W #[a, b] 2 hB (by decide) rfl
theorem keepPa {w W : World} {B : Nat} {f : Int} {hi lo : Nat} {b : Int} (o : Obj) (h : W.cell? ⟨B, 0, none⟩ = some (.int .i64 f) ∧ W.cell? ⟨B, 1, none⟩ = some (.int .u64 hi) ∧ W.cell? ⟨B, 2, none⟩ = some (.int .u64 lo) ∧ W.cell? ⟨B, 3, none⟩ = some (.int .i64 b) ∧ Below w.heap.size w W) :
    (W.alloc o).cell? ⟨B, 0, none⟩ = some (.int .i64 f) ∧ (W.alloc o).cell? ⟨B, 1, none⟩ = some (.int .u64 hi) ∧ (W.alloc o).cell? ⟨B, 2, none⟩ = some (.int .u64 lo) ∧ (W.alloc o).cell? ⟨B, 3, none⟩ = some (.int .i64 b) ∧ Below w.heap.size w (W.alloc o) :=
  ⟨keepc (one _ _) h.1, keepc (one _ _) h.2.1, keepc (one _ _) h.2.2.1, keepc (one _ _) h.2.2.2.1, h.2.2.2.2.alloc h.2.2.2.2.size o⟩
theorem keepP {w W W' : World} {B : Nat} {f : Int} {hi lo : Nat} {b : Int} (h : W.cell? ⟨B, 0, none⟩ = some (.int .i64 f) ∧ W.cell? ⟨B, 1, none⟩ = some (.int .u64 hi) ∧ W.cell? ⟨B, 2, none⟩ = some (.int .u64 lo) ∧ W.cell? ⟨B, 3, none⟩ = some (.int .i64 b) ∧ Below w.heap.size w W) (hb : Below W.heap.size W W') :
    W'.cell? ⟨B, 0, none⟩ = some (.int .i64 f) ∧ W'.cell? ⟨B, 1, none⟩ = some (.int .u64 hi) ∧ W'.cell? ⟨B, 2, none⟩ = some (.int .u64 lo) ∧ W'.cell? ⟨B, 3, none⟩ = some (.int .i64 b) ∧ Below w.heap.size w W' :=
  ⟨keepc hb h.1, keepc hb h.2.1, keepc hb h.2.2.1, keepc hb h.2.2.2.1, h.2.2.2.2.trans (hb.mono h.2.2.2.2.size)⟩

theorem keepG {w W W' : World} {B k : Nat} {f : Int} {hi lo : Nat} {b : Int} {m c : Nat} (h : W.cell? ⟨B, 0, none⟩ = some (.int .i64 f) ∧ W.cell? ⟨B, 1, none⟩ = some (.int .u64 hi) ∧ W.cell? ⟨B, 2, none⟩ = some (.int .u64 lo) ∧ W.cell? ⟨B, 3, none⟩ = some (.int .i64 b) ∧ Below w.heap.size w W)
    (hg : W.grownBy W' (Value.slice (some ⟨k, 0, none⟩) m c).ownBlock) (hk : B < k) (hw : w.heap.size ≤ k) :
    W'.cell? ⟨B, 0, none⟩ = some (.int .i64 f) ∧ W'.cell? ⟨B, 1, none⟩ = some (.int .u64 hi) ∧ W'.cell? ⟨B, 2, none⟩ = some (.int .u64 lo) ∧ W'.cell? ⟨B, 3, none⟩ = some (.int .i64 b) ∧ Below w.heap.size w W' := by
  have hlt := World.block_lt_of_cell? W _ h.1
  have far : ∀ o, W'.cell? ⟨B, o, none⟩ = W.cell? ⟨B, o, none⟩ := fun o => hg.cell_far ⟨B, o, none⟩ hlt (by intro e; injection e with e; simp at e; omega)
  exact ⟨(far 0).trans h.1, (far 1).trans h.2.1, (far 2).trans h.2.2.1, (far 3).trans h.2.2.2.1, h.2.2.2.2.grown hg h.2.2.2.2.size (fun j hj => by injection hj with hj; simp at hj; omega)⟩
theorem cels_one (l : List UInt8) : ∀ u ∈ l.map cel, u.oneCell' = true := fun u hu => by
  obtain ⟨y, -, rfl⟩ := List.mem_map.1 hu
  rfl

theorem cel_nat (k : Nat) (h : k < 256) : cel (UInt8.ofNat k) = .int .u8 (k : Int) := celv k h
end Go.Proofs.YtdpcmokemjfelaaGreatDoor.Pf
