/- Contracts: num, twelve, and the bytes of a stamp, of the program and of the reference. -/
import Derived.Test.YtdpcmokemjfelaaGreatDoorStampA
import Derived.Test.YtdpcmokemjfelaaGreatDoorBytesA
import Derived.Test.YtdpcmokemjfelaaGreatDoorPrefixText
import Derived.LoopN
import Derived.Laws.CopyOwn
namespace Go.Proofs.YtdpcmokemjfelaaGreatDoor.St
open Go.RowKit Go.Proofs.YtdpcmokemjfelaaGreatDoor.Wd Go.Proofs.YtdpcmokemjfelaaGreatDoor.Pl Go.Proofs.YtdpcmokemjfelaaGreatDoor.Px Go.Proofs.YtdpcmokemjfelaaGreatDoor.By

theorem num_any (n : Int) (w : World) : Calls Tryz.prog 17 #[.int .i64 n] w fun e w' => e = .returned (.int .i64 n) ∧ w = w' := by
  go_enter Tryz.func17, Tryz.ntmps17
  go_wp2
  go_ret
  exact ⟨rfl, rfl⟩

def l12 : List UInt8 := [0, 0, 0, 0, 0, 0, 0, 1, 0, 0, 0, 2]
theorem twelve_any (w : World) : Calls Tryz.prog 13 #[] w fun e w' => ∃ A c, e = .returned (.slice A l12.length c) ∧ Shows cel w' w'.heap.size A l12 ∧ Below w.heap.size w w' := by
  go_enter Tryz.func13, Tryz.ntmps13
  go_wp2
  go_ret
  refine ⟨some ⟨w.heap.size, 0, none⟩, 12, rfl, ?_, (Below.refl _ _).alloc (Nat.le_refl _) _⟩
  intro _
  refine ⟨w.heap.size, 0, rfl, by simp, fun i x hx => ?_⟩
  rw [World.cell?_alloc_at _ _ _ _ rfl, Nat.zero_add]
  have h12 : l12.map cel = [.int .u8 0, .int .u8 0, .int .u8 0, .int .u8 0, .int .u8 0, .int .u8 0, .int .u8 0, .int .u8 1, .int .u8 0, .int .u8 0, .int .u8 0, .int .u8 2] := rfl
  have := congrArg (fun l : List Value => l[i]?) h12
  simp only [List.getElem?_map, hx, Option.map_some] at this
  simpa using this.symm

theorem celv (k : Nat) (h : k < 256) : cel (UInt8.ofNat k) = .int .u8 (k : Int) := by
  unfold cel
  rw [UInt8.toNat_ofNat', Nat.mod_eq_of_lt (by omega)]
/-- the cells of a stamp's bytes, as the program's loops leave them -/
def cells12 (s n : Int) : List Value := [.int .u8 (s / 72057594037927936), .int .u8 (s / 281474976710656 % 256), .int .u8 (s / 1099511627776 % 256), .int .u8 (s / 4294967296 % 256), .int .u8 (s / 16777216 % 256), .int .u8 (s / 65536 % 256), .int .u8 (s / 256 % 256), .int .u8 (s % 256), .int .u8 (n / 16777216), .int .u8 (n / 65536 % 256), .int .u8 (n / 256 % 256), .int .u8 (n % 256)]
theorem cells12_eq (s n : Int) (h1 : 0 ≤ s) (h0 : s ≤ 9223372036854775807) (h2 : 0 ≤ n) (h3 : n ≤ 999999999) : (be 8 s.toNat ++ be 4 n.toNat).map cel = cells12 s n := by
  obtain ⟨a, rfl⟩ : ∃ a : Nat, s = a := ⟨s.toNat, by omega⟩
  obtain ⟨b, rfl⟩ : ∃ b : Nat, n = b := ⟨n.toNat, by omega⟩
  simp only [be, dgs, Int.toNat_natCast, List.nil_append, List.cons_append, List.map_cons, List.map_nil, cells12]
  repeat rw [celv _ (by omega)]
  simp only [List.cons.injEq, Value.int.injEq, true_and, and_true]
  refine ⟨?_, ?_, ?_, ?_, ?_, ?_, ?_, ?_, ?_, ?_, ?_, ?_⟩ <;> omega
def zero12 : List Value := [.int .u8 0, .int .u8 0, .int .u8 0, .int .u8 0, .int .u8 0, .int .u8 0, .int .u8 0, .int .u8 0, .int .u8 0, .int .u8 0, .int .u8 0, .int .u8 0]
theorem Tryz.sizeB : (Tryz.prog.info? 5).map (·.size) = some 1 := by kernel_rfl
theorem heap_new2 (w : World) (o o' : Obj) : ((w.alloc o).alloc o').heap[w.heap.size + 1]? = some o' := by
  have := heap_alloc_new (w.alloc o) o'
  rwa [World.size_alloc] at this
theorem add0 (b j : Nat) : (⟨b, 0, none⟩ : Addr).add j = ⟨b, j, none⟩ := by
  unfold Addr.add
  split
  · rename_i h; subst h; rfl
  · simp

set_option maxHeartbeats 1000000 in
theorem put_yes (s n : Int) (w : World) (h1 : 0 ≤ s) (h0 : s ≤ 9223372036854775807) (h2 : 0 ≤ n) (h3 : n ≤ 999999999) :
    Calls Tryz.prog 5 #[.agg #[.int .i64 s, .int .i64 n]] w fun e w' => ∃ v, e = .returned v ∧ w'.ownsRow w.heap.size 5 1 v 12 ((be 8 s.toNat ++ be 4 n.toNat).map cel) ∧ Below w.heap.size w w' := by
  have hv : vld s n = true := by rw [vld_iff]; omega
  have hmk : ∀ w : World, (Instr.makeSlice 44 (.int .i64 12) (.int .i64 12)).run Tryz.prog w = .ok (.slice (some ⟨w.heap.size, 0, none⟩) 12 12) (w.alloc (.cells #[.int .u8 0, .int .u8 0, .int .u8 0, .int .u8 0, .int .u8 0, .int .u8 0, .int .u8 0, .int .u8 0, .int .u8 0, .int .u8 0, .int .u8 0, .int .u8 0] 5)) := fun _ => by kernel_rfl
  go_enter Tryz.func5, Tryz.ntmps5
  go_wp2_with fail
  refine (valid_any _ _ _ h0).mono ?_
  rintro e w1 ⟨rfl, hb⟩
  rw [hv]
  have c0 := keepc hb (b := w.heap.size) (o := 0) (v := .int .i64 s) (by go_simp)
  have c1 := keepc hb (b := w.heap.size) (o := 1) (v := .int .i64 n) (by go_simp)
  have hz : w.heap.size < w1.heap.size := by have := hb.size; simp at this; omega
  go_wp2
  refine wp_loop_rounds 9 ?_
  rw [rounds_succ]
  go_wp2
  rw [rounds_succ]
  go_wp2
  rw [rounds_succ]
  go_wp2
  rw [rounds_succ]
  go_wp2
  rw [rounds_succ]
  go_wp2
  rw [rounds_succ]
  go_wp2
  rw [rounds_succ]
  go_wp2
  rw [rounds_succ]
  go_wp2
  rw [rounds_succ]
  go_wp2
  refine wp_loop_rounds 5 ?_
  rw [rounds_succ]
  go_wp2
  rw [rounds_succ]
  go_wp2
  rw [rounds_succ]
  go_wp2
  rw [rounds_succ]
  go_wp2
  rw [rounds_succ]
  go_wp2_with (with_reducible refine wpList_copy_splice rfl (.tmp 37) (.tmp 38) 44 44 rfl 5 Tryz.underlying44 Tryz.sizeB (some ⟨w1.heap.size + 1, 0, none⟩) (some ⟨w1.heap.size, 0, none⟩) 12 12 12 12 rfl rfl (w1.heap.size + 1) 0 zero12 5 ?hg (cells12 s n) rfl ?hpos ?hfit ?h1 w.heap.size w ?hb ?hB ?_)
  case hg => exact heap_new2 _ _ _
  case hpos => exact fun _ _ _ hj => hj
  case hfit => exact Nat.le_refl 12
  case h1 => intro v hv; simp [cells12] at hv; rcases hv with rfl | rfl | rfl | rfl | rfl | rfl | rfl | rfl | rfl | rfl | rfl | rfl <;> rfl
  case hb => exact ((((Below.refl _ w).alloc (Nat.le_refl _) _).trans (hb.mono (by simp))).alloc (by omega) _).alloc (by simp; omega) _
  case hB => omega
  intro w2 hg2 hb2
  go_wp2
  go_ret
  refine ⟨_, rfl, ?_, hb2⟩
  rw [cells12_eq s n h1 h0 h2 h3]
  exact ⟨rfl, .inr ⟨_, 12, _, rfl, by omega, hg2.out, Nat.le_refl _, by decide, rfl, rfl⟩⟩

theorem put_no (s n : Int) (w : World) (h0 : s ≤ 9223372036854775807) (hv : vld s n = false) :
    Calls Tryz.prog 5 #[.agg #[.int .i64 s, .int .i64 n]] w fun e w' => e = .returned (.slice none 0 0) ∧ Below w.heap.size w w' := by
  go_enter Tryz.func5, Tryz.ntmps5
  go_wp2_with fail
  refine (valid_any _ _ _ h0).mono ?_
  rintro e w1 ⟨rfl, hb⟩
  rw [hv]
  go_wp2
  go_ret
  exact ⟨rfl, ((Below.refl _ w).alloc (Nat.le_refl _) _).trans (hb.mono (by simp))⟩

end Go.Proofs.YtdpcmokemjfelaaGreatDoor.St
