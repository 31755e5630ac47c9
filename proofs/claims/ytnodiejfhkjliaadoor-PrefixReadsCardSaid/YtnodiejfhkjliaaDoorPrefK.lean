/- Contracts: how many bytes a number has; a number's bytes, laid behind none or eight. -/
import Derived.Test.YtnodiejfhkjliaaDoorPrefJ
import Derived.Test.YtnodiejfhkjliaaDoorBytesA
import Derived.Test.YtnodiejfhkjliaaDoorPrefixText
import Derived.LoopN
import Derived.Laws.CopyOwn
namespace Go.Proofs.YtnodiejfhkjliaaDoor.Pf
open Go.RowKit Go.Proofs.YtnodiejfhkjliaaDoor.Wd Go.Proofs.YtnodiejfhkjliaaDoor.Px Go.Proofs.YtnodiejfhkjliaaDoor.By

set_option maxHeartbeats 1000000 in
theorem width32 (w : World) : Calls Tryd.prog 71 #[] w fun e w' => e = .returned (.int .i64 4) ∧ w' = w := by
  go_enter Tryd.func71, Tryd.ntmps71
  go_wp2
  refine wp_loop_rounds 5 ?_
  rw [rounds_succ]
  go_wp2
  rw [rounds_succ]
  go_wp2
  rw [rounds_succ]
  go_wp2
  rw [rounds_succ]
  go_wp2
  rw [rounds_succ]
  go_wp2
  go_ret
  exact ⟨rfl, rfl⟩
set_option maxHeartbeats 1000000 in
theorem width64 (w : World) : Calls Tryd.prog 72 #[] w fun e w' => e = .returned (.int .i64 8) ∧ w' = w := by
  go_enter Tryd.func72, Tryd.ntmps72
  go_wp2
  refine wp_loop_rounds 9 ?_
  rw [rounds_succ]
  go_wp2
  rw [rounds_succ]
  go_wp2
  rw [rounds_succ]
  go_wp2
  rw [rounds_succ]
  go_wp2
  rw [rounds_succ]
  go_wp2
  rw [rounds_succ]
  go_wp2
  rw [rounds_succ]
  go_wp2
  rw [rounds_succ]
  go_wp2
  rw [rounds_succ]
  go_wp2
  go_ret
  exact ⟨rfl, rfl⟩

/-- cells of a number's bytes, as the program's loop leaves them -/
def cells4 (x : Int) : List Value := [.int .u8 (x / 16777216), .int .u8 (x / 65536 % 256), .int .u8 (x / 256 % 256), .int .u8 (x % 256)]
def cells8 (x : Int) : List Value := [.int .u8 (x / 72057594037927936), .int .u8 (x / 281474976710656 % 256), .int .u8 (x / 1099511627776 % 256), .int .u8 (x / 4294967296 % 256), .int .u8 (x / 16777216 % 256), .int .u8 (x / 65536 % 256), .int .u8 (x / 256 % 256), .int .u8 (x % 256)]
theorem celv (k : Nat) (h : k < 256) : cel (UInt8.ofNat k) = .int .u8 (k : Int) := by
  unfold cel
  rw [UInt8.toNat_ofNat', Nat.mod_eq_of_lt (by omega)]
theorem cells4_eq (x : Nat) (h : x < 4294967296) : (be 4 x).map cel = cells4 x := by
  simp only [be, dgs, List.nil_append, List.cons_append, List.map_cons, List.map_nil, cells4]
  repeat rw [celv _ (by omega)]
  simp only [List.cons.injEq, Value.int.injEq, true_and, and_true]
  refine ⟨?_, ?_, ?_, ?_⟩ <;> omega
theorem cells8_eq (x : Nat) (h : x < 18446744073709551616) : (be 8 x).map cel = cells8 x := by
  simp only [be, dgs, List.nil_append, List.cons_append, List.map_cons, List.map_nil, cells8]
  repeat rw [celv _ (by omega)]
  simp only [List.cons.injEq, Value.int.injEq, true_and, and_true]
  refine ⟨?_, ?_, ?_, ?_, ?_, ?_, ?_, ?_⟩ <;> omega
theorem Tryd.sizeB : (Tryd.prog.info? 5).map (·.size) = some 1 := by kernel_rfl

set_option maxRecDepth 20000 in
set_option maxHeartbeats 4000000 in
theorem put32 (x : Nat) (hx : x < 4294967296) (w : World) :
    Calls Tryd.prog 46 #[.slice none 0 0, .int .u32 x] w fun e w' => ∃ v, e = .returned v ∧ w'.ownsRow w.heap.size 5 1 v 4 ((be 4 x).map cel) ∧ Below w.heap.size w w' := by
  have hmk : ∀ w : World, (Instr.makeSlice 31 (.int .i64 4) (.int .i64 4)).run Tryd.prog w = .ok (.slice (some ⟨w.heap.size, 0, none⟩) 4 4) (w.alloc (.cells #[.int .u8 0, .int .u8 0, .int .u8 0, .int .u8 0] 5)) := fun _ => by kernel_rfl
  have hx1 : (x : Int) < 4294967296 := by omega
  go_enter Tryd.func46, Tryd.ntmps46
  go_wp2_with fail
  refine (width32 w).mono ?_
  rintro e w1 ⟨rfl, rfl⟩
  go_wp2_with (with_reducible refine wpList_copy_splice rfl (.tmp 14) (.tmp 15) 31 31 rfl 5 Tryd.underlying31 Tryd.sizeB (some ⟨w1.heap.size, 0, none⟩) none 4 4 0 0 rfl rfl w1.heap.size 0 [.int .u8 0, .int .u8 0, .int .u8 0, .int .u8 0] 5 (heap_alloc_new _ _) [] ?hn ?hpos ?hfit ?h1 w1.heap.size w1 (one _ _) (Nat.le_refl _) ?_)
  case hn => rfl
  case hfit => simp
  case h1 => intro v hv; simp at hv
  intro w2 hg2 hb2
  have hown : w2.ownsRow w1.heap.size 5 1 (.slice (some ⟨w1.heap.size, 0, none⟩) 4 4) 4 [.int .u8 0, .int .u8 0, .int .u8 0, .int .u8 0] := ⟨rfl, .inr ⟨_, 4, _, rfl, Nat.le_refl _, hg2.out, Nat.le_refl _, by decide, rfl, rfl⟩⟩
  have c0 := hown.cellAt 0 (by omega)
  have c1 := hown.cellAt 1 (by omega)
  have c2 := hown.cellAt 2 (by omega)
  have c3 := hown.cellAt 3 (by omega)
  simp only [List.getElem?_cons_zero, List.getElem?_cons_succ] at c0 c1 c2 c3
  have hf := fun j => hown.frozenAt j
  have HO := Lib.hid hown
  have HB := Lib.hid hb2
  clear hown hb2 hg2
  go_wp2
  refine wp_loop_rounds 5 ?_
  rw [rounds_succ]
  go_wp2
  rw [rounds_succ]
  go_wp2
  rw [rounds_succ]
  go_wp2
  rw [rounds_succ]
  go_wp2
  rw [rounds_succ]
  go_wp2
  go_ret
  refine ⟨_, rfl, ?_, ((((HB.out.setCell (p := ⟨w1.heap.size, 3, none⟩) (Nat.le_refl _) _).setCell (p := ⟨w1.heap.size, 2, none⟩) (Nat.le_refl _) _).setCell (p := ⟨w1.heap.size, 1, none⟩) (Nat.le_refl _) _).setCell (p := ⟨w1.heap.size, 0, none⟩) (Nat.le_refl _) _)⟩
  rw [cells4_eq x hx]
  exact ((((HO.out.stored 3 _).1.stored 2 _).1.stored 1 _).1.stored 0 _).1

set_option maxRecDepth 20000 in
set_option maxHeartbeats 4000000 in
theorem put64 (x : Nat) (hx : x < 18446744073709551616) (w : World) :
    Calls Tryd.prog 47 #[.slice none 0 0, .int .u64 x] w fun e w' => ∃ v, e = .returned v ∧ w'.ownsRow w.heap.size 5 1 v 8 ((be 8 x).map cel) ∧ Below w.heap.size w w' := by
  have hmk : ∀ w : World, (Instr.makeSlice 31 (.int .i64 8) (.int .i64 8)).run Tryd.prog w = .ok (.slice (some ⟨w.heap.size, 0, none⟩) 8 8) (w.alloc (.cells #[.int .u8 0, .int .u8 0, .int .u8 0, .int .u8 0, .int .u8 0, .int .u8 0, .int .u8 0, .int .u8 0] 5)) := fun _ => by kernel_rfl
  have hx1 : (x : Int) < 18446744073709551616 := by omega
  go_enter Tryd.func47, Tryd.ntmps47
  go_wp2_with fail
  refine (width64 w).mono ?_
  rintro e w1 ⟨rfl, rfl⟩
  go_wp2_with (with_reducible refine wpList_copy_splice rfl (.tmp 14) (.tmp 15) 31 31 rfl 5 Tryd.underlying31 Tryd.sizeB (some ⟨w1.heap.size, 0, none⟩) none 8 8 0 0 rfl rfl w1.heap.size 0 [.int .u8 0, .int .u8 0, .int .u8 0, .int .u8 0, .int .u8 0, .int .u8 0, .int .u8 0, .int .u8 0] 5 (heap_alloc_new _ _) [] ?hn ?hpos ?hfit ?h1 w1.heap.size w1 (one _ _) (Nat.le_refl _) ?_)
  case hn => rfl
  case hfit => simp
  case h1 => intro v hv; simp at hv
  intro w2 hg2 hb2
  have hown : w2.ownsRow w1.heap.size 5 1 (.slice (some ⟨w1.heap.size, 0, none⟩) 8 8) 8 [.int .u8 0, .int .u8 0, .int .u8 0, .int .u8 0, .int .u8 0, .int .u8 0, .int .u8 0, .int .u8 0] := ⟨rfl, .inr ⟨_, 8, _, rfl, Nat.le_refl _, hg2.out, Nat.le_refl _, by decide, rfl, rfl⟩⟩
  have c0 := hown.cellAt 0 (by omega)
  have c1 := hown.cellAt 1 (by omega)
  have c2 := hown.cellAt 2 (by omega)
  have c3 := hown.cellAt 3 (by omega)
  have c4 := hown.cellAt 4 (by omega)
  have c5 := hown.cellAt 5 (by omega)
  have c6 := hown.cellAt 6 (by omega)
  have c7 := hown.cellAt 7 (by omega)
  simp only [List.getElem?_cons_zero, List.getElem?_cons_succ] at c0 c1 c2 c3 c4 c5 c6 c7
  have hf := fun j => hown.frozenAt j
  have HO := Lib.hid hown
  have HB := Lib.hid hb2
  clear hown hb2 hg2
  go_wp2
  refine wp_loop_rounds 9 ?_
  rw [rounds_succ]
  go_wp2
  rw [rounds_succ]
  go_wp2
  rw [rounds_succ]
  go_wp2
  rw [rounds_succ]
  go_wp2
  rw [rounds_succ]
  go_wp2
  rw [rounds_succ]
  go_wp2
  rw [rounds_succ]
  go_wp2
  rw [rounds_succ]
  go_wp2
  rw [rounds_succ]
  go_wp2
  go_ret
  refine ⟨_, rfl, ?_, ((((((((HB.out.setCell (p := ⟨w1.heap.size, 7, none⟩) (Nat.le_refl _) _).setCell (p := ⟨w1.heap.size, 6, none⟩) (Nat.le_refl _) _).setCell (p := ⟨w1.heap.size, 5, none⟩) (Nat.le_refl _) _).setCell (p := ⟨w1.heap.size, 4, none⟩) (Nat.le_refl _) _).setCell (p := ⟨w1.heap.size, 3, none⟩) (Nat.le_refl _) _).setCell (p := ⟨w1.heap.size, 2, none⟩) (Nat.le_refl _) _).setCell (p := ⟨w1.heap.size, 1, none⟩) (Nat.le_refl _) _).setCell (p := ⟨w1.heap.size, 0, none⟩) (Nat.le_refl _) _)⟩
  rw [cells8_eq x hx]
  exact ((((((((HO.out.stored 7 _).1.stored 6 _).1.stored 5 _).1.stored 4 _).1.stored 3 _).1.stored 2 _).1.stored 1 _).1.stored 0 _).1

theorem set_tail8 (l : List Value) (a b c d e f g h : Value) (hl : l.length = 8) : ((((((((l ++ ([.int .u8 0, .int .u8 0, .int .u8 0, .int .u8 0, .int .u8 0, .int .u8 0, .int .u8 0, .int .u8 0] : List Value)).set 15 a).set 14 b).set 13 c).set 12 d).set 11 e).set 10 f).set 9 g).set 8 h = l ++ [h, g, f, e, d, c, b, a] := by
  match l, hl with
  | [x0, x1, x2, x3, x4, x5, x6, x7], _ => rfl
theorem own_tail8 {w : World} {base g : Nat} {l : List UInt8} (hl : l.length = 8) (HO : w.ownsRow base 5 1 (.slice (some ⟨g, 0, none⟩) 16 16) 16 (l.map cel ++ [.int .u8 0, .int .u8 0, .int .u8 0, .int .u8 0, .int .u8 0, .int .u8 0, .int .u8 0, .int .u8 0])) (a b c d e f h i : Value) :
    ((((((((w.setCell ⟨g, 15, none⟩ a).setCell ⟨g, 14, none⟩ b).setCell ⟨g, 13, none⟩ c).setCell ⟨g, 12, none⟩ d).setCell ⟨g, 11, none⟩ e).setCell ⟨g, 10, none⟩ f).setCell ⟨g, 9, none⟩ h).setCell ⟨g, 8, none⟩ i).ownsRow base 5 1 (.slice (some ⟨g, 0, none⟩) 16 16) 16 (l.map cel ++ [i, h, f, e, d, c, b, a]) := by
  have hfin := ((((((((HO.stored 15 a).1.stored 14 b).1.stored 13 c).1.stored 12 d).1.stored 11 e).1.stored 10 f).1.stored 9 h).1.stored 8 i).1
  rw [set_tail8 (l.map cel) a b c d e f h i (by simpa using hl)] at hfin
  exact hfin

set_option maxRecDepth 20000 in
set_option maxHeartbeats 4000000 in
theorem put64b (x : Nat) (hx : x < 18446744073709551616) (w : World) (l : List UInt8) (hl : l.length = 8) (A : Option Addr) (c : Nat) (hs : Shows cel w w.heap.size A l) :
    Calls Tryd.prog 47 #[.slice A 8 c, .int .u64 x] w fun e w' => ∃ v, e = .returned v ∧ w'.ownsRow w.heap.size 5 1 v 16 ((l ++ be 8 x).map cel) ∧ Below w.heap.size w w' := by
  have hmk : ∀ w : World, (Instr.makeSlice 31 (.int .i64 16) (.int .i64 16)).run Tryd.prog w = .ok (.slice (some ⟨w.heap.size, 0, none⟩) 16 16) (w.alloc (.cells #[.int .u8 0, .int .u8 0, .int .u8 0, .int .u8 0, .int .u8 0, .int .u8 0, .int .u8 0, .int .u8 0, .int .u8 0, .int .u8 0, .int .u8 0, .int .u8 0, .int .u8 0, .int .u8 0, .int .u8 0, .int .u8 0] 5)) := fun _ => by kernel_rfl
  have hx1 : (x : Int) < 18446744073709551616 := by omega
  obtain ⟨b, o, rfl, hbB, hcs⟩ := hs (by omega)
  have h1S : ∀ v ∈ l.map cel, v.oneCell' = true := fun v hv => by
    obtain ⟨y, -, rfl⟩ := List.mem_map.1 hv
    rfl
  have HCS := Lib.hid hcs
  clear hcs hs
  go_enter Tryd.func47, Tryd.ntmps47
  go_wp2_with fail
  refine (width64 w).mono ?_
  rintro e w1 ⟨rfl, rfl⟩
  go_wp2_with (with_reducible refine wpList_copy_splice rfl (.tmp 14) (.tmp 15) 31 31 rfl 5 Tryd.underlying31 Tryd.sizeB (some ⟨w1.heap.size, 0, none⟩) (some ⟨b, o, none⟩) 16 16 8 c rfl rfl w1.heap.size 0 [.int .u8 0, .int .u8 0, .int .u8 0, .int .u8 0, .int .u8 0, .int .u8 0, .int .u8 0, .int .u8 0, .int .u8 0, .int .u8 0, .int .u8 0, .int .u8 0, .int .u8 0, .int .u8 0, .int .u8 0, .int .u8 0] 5 (heap_alloc_new _ _) (l.map cel) ?hn ?hpos ?hfit ?h1 w1.heap.size w1 (one _ _) (Nat.le_refl _) ?_)
  case hn => simp [hl]
  case hpos => exact HCS.out
  case hfit => simp [hl]
  case h1 => exact h1S
  intro w2 hg2 hb2
  have hg3 := hg2.out
  rw [show splice [.int .u8 0, .int .u8 0, .int .u8 0, .int .u8 0, .int .u8 0, .int .u8 0, .int .u8 0, .int .u8 0, .int .u8 0, .int .u8 0, .int .u8 0, .int .u8 0, .int .u8 0, .int .u8 0, .int .u8 0, .int .u8 0] 0 (l.map cel) = l.map cel ++ [.int .u8 0, .int .u8 0, .int .u8 0, .int .u8 0, .int .u8 0, .int .u8 0, .int .u8 0, .int .u8 0] by simp [splice, hl]] at hg3
  have hown : w2.ownsRow w1.heap.size 5 1 (.slice (some ⟨w1.heap.size, 0, none⟩) 16 16) 16 (l.map cel ++ [.int .u8 0, .int .u8 0, .int .u8 0, .int .u8 0, .int .u8 0, .int .u8 0, .int .u8 0, .int .u8 0]) := ⟨by simp [hl], .inr ⟨_, 16, _, rfl, Nat.le_refl _, hg3, Nat.le_refl _, by decide, by simp [hl], List.take_of_length_le (by simp [hl])⟩⟩
  have c8 : w2.cell? ⟨w1.heap.size, 8, none⟩ = some (.int .u8 0) := (hown.cellAt 8 (by omega)).trans (by rw [List.getElem?_append_right (by rw [List.length_map, hl]; omega), List.length_map, hl]; rfl)
  have c9 : w2.cell? ⟨w1.heap.size, 9, none⟩ = some (.int .u8 0) := (hown.cellAt 9 (by omega)).trans (by rw [List.getElem?_append_right (by rw [List.length_map, hl]; omega), List.length_map, hl]; rfl)
  have c10 : w2.cell? ⟨w1.heap.size, 10, none⟩ = some (.int .u8 0) := (hown.cellAt 10 (by omega)).trans (by rw [List.getElem?_append_right (by rw [List.length_map, hl]; omega), List.length_map, hl]; rfl)
  have c11 : w2.cell? ⟨w1.heap.size, 11, none⟩ = some (.int .u8 0) := (hown.cellAt 11 (by omega)).trans (by rw [List.getElem?_append_right (by rw [List.length_map, hl]; omega), List.length_map, hl]; rfl)
  have c12 : w2.cell? ⟨w1.heap.size, 12, none⟩ = some (.int .u8 0) := (hown.cellAt 12 (by omega)).trans (by rw [List.getElem?_append_right (by rw [List.length_map, hl]; omega), List.length_map, hl]; rfl)
  have c13 : w2.cell? ⟨w1.heap.size, 13, none⟩ = some (.int .u8 0) := (hown.cellAt 13 (by omega)).trans (by rw [List.getElem?_append_right (by rw [List.length_map, hl]; omega), List.length_map, hl]; rfl)
  have c14 : w2.cell? ⟨w1.heap.size, 14, none⟩ = some (.int .u8 0) := (hown.cellAt 14 (by omega)).trans (by rw [List.getElem?_append_right (by rw [List.length_map, hl]; omega), List.length_map, hl]; rfl)
  have c15 : w2.cell? ⟨w1.heap.size, 15, none⟩ = some (.int .u8 0) := (hown.cellAt 15 (by omega)).trans (by rw [List.getElem?_append_right (by rw [List.length_map, hl]; omega), List.length_map, hl]; rfl)
  have hf := fun j => hown.frozenAt j
  have HO := Lib.hid hown
  have HB := Lib.hid hb2
  clear hown hb2 hg2
  go_wp2
  refine wp_loop_rounds 9 ?_
  rw [rounds_succ]
  go_wp2
  rw [rounds_succ]
  go_wp2
  rw [rounds_succ]
  go_wp2
  rw [rounds_succ]
  go_wp2
  rw [rounds_succ]
  go_wp2
  rw [rounds_succ]
  go_wp2
  rw [rounds_succ]
  go_wp2
  rw [rounds_succ]
  go_wp2
  rw [rounds_succ]
  go_wp2
  go_ret
  refine ⟨_, rfl, ?_, ((((((((HB.out.setCell (p := ⟨w1.heap.size, 15, none⟩) (Nat.le_refl _) _).setCell (p := ⟨w1.heap.size, 14, none⟩) (Nat.le_refl _) _).setCell (p := ⟨w1.heap.size, 13, none⟩) (Nat.le_refl _) _).setCell (p := ⟨w1.heap.size, 12, none⟩) (Nat.le_refl _) _).setCell (p := ⟨w1.heap.size, 11, none⟩) (Nat.le_refl _) _).setCell (p := ⟨w1.heap.size, 10, none⟩) (Nat.le_refl _) _).setCell (p := ⟨w1.heap.size, 9, none⟩) (Nat.le_refl _) _).setCell (p := ⟨w1.heap.size, 8, none⟩) (Nat.le_refl _) _)⟩
  rw [List.map_append, cells8_eq x hx]
  exact own_tail8 hl HO.out _ _ _ _ _ _ _ _

end Go.Proofs.YtnodiejfhkjliaaDoor.Pf
