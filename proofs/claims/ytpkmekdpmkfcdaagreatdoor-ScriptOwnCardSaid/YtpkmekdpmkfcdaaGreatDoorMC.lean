/- Contracts: how many bytes a number has; a number's bytes, laid behind none or eight. Contract: an address's bytes, by the program. Contract: a prefix's bytes, by the program. -/
import Derived.Test.YtpkmekdpmkfcdaaGreatDoorMB
import Derived.Test.YtpkmekdpmkfcdaaGreatDoorBytesA
import Derived.Test.YtpkmekdpmkfcdaaGreatDoorPrefixText
import Derived.LoopN
import Derived.Laws.CopyOwn
import Derived.Deep.AppendLies
namespace Go.Proofs.YtpkmekdpmkfcdaaGreatDoor.Pf
open Go.RowKit Go.Proofs.YtpkmekdpmkfcdaaGreatDoor.Wd Go.Proofs.YtpkmekdpmkfcdaaGreatDoor.Px Go.Proofs.YtpkmekdpmkfcdaaGreatDoor.By
set_option maxHeartbeats 1000000 in
theorem width32 (w : World) : Calls Tryz.prog 281 #[] w fun e w' => e = .returned (.int .i64 4) ∧ w' = w := by
 go_enter Tryz.func281,Tryz.ntmps281
 go_wp2
 refine wp_loop_rounds 5 ?_
 rw [rounds_succ]
 go_wp2
 rw [rounds_succ]
 go_wp2
 rw [rounds_succ]
 go_wp2
 rw [rounds_succ]
 go_wp2
 rw [rounds_succ]
 go_wp2
 go_ret
 exact ⟨rfl,rfl⟩
set_option maxHeartbeats 1000000 in
theorem width64 (w : World) : Calls Tryz.prog 282 #[] w fun e w' => e = .returned (.int .i64 8) ∧ w' = w := by
 go_enter Tryz.func282,Tryz.ntmps282
 go_wp2
 refine wp_loop_rounds 9 ?_
 rw [rounds_succ]
 go_wp2
 rw [rounds_succ]
 go_wp2
 rw [rounds_succ]
 go_wp2
 rw [rounds_succ]
 go_wp2
 rw [rounds_succ]
 go_wp2
 rw [rounds_succ]
 go_wp2
 rw [rounds_succ]
 go_wp2
 rw [rounds_succ]
 go_wp2
 rw [rounds_succ]
 go_wp2
 go_ret
 exact ⟨rfl,rfl⟩
/-- cells of a number's bytes, as the program's loop leaves them -/
def cells4 (x : Int) : List Value := [.int .u8 (x / 16777216),.int .u8 (x / 65536 % 256),.int .u8 (x / 256 % 256),.int .u8 (x % 256)]
def cells8 (x : Int) : List Value := [.int .u8 (x / 72057594037927936),.int .u8 (x / 281474976710656 % 256),.int .u8 (x / 1099511627776 % 256),.int .u8 (x / 4294967296 % 256),.int .u8 (x / 16777216 % 256),.int .u8 (x / 65536 % 256),.int .u8 (x / 256 % 256),.int .u8 (x % 256)]
theorem celv (k : Nat) (h : k < 256) : cel (UInt8.ofNat k) = .int .u8 (k : Int) := by
 unfold cel
 rw [UInt8.toNat_ofNat',Nat.mod_eq_of_lt (by omega)]
theorem cells4_eq (x : Nat) (h : x < 4294967296) : (be 4 x).map cel = cells4 x := by
 simp only [be,dgs,List.nil_append,List.cons_append,List.map_cons,List.map_nil,cells4]
 repeat rw [celv _ (by omega)]
 simp only [List.cons.injEq,Value.int.injEq,true_and,and_true]
 refine ⟨?_,?_,?_,?_⟩ <;> omega
theorem cells8_eq (x : Nat) (h : x < 18446744073709551616) : (be 8 x).map cel = cells8 x := by
 simp only [be,dgs,List.nil_append,List.cons_append,List.map_cons,List.map_nil,cells8]
 repeat rw [celv _ (by omega)]
 simp only [List.cons.injEq,Value.int.injEq,true_and,and_true]
 refine ⟨?_,?_,?_,?_,?_,?_,?_,?_⟩ <;> omega
theorem Tryz.sizeB : (Tryz.prog.info? 5).map (·.size) = some 1 := by kernel_rfl
set_option maxRecDepth 20000 in
set_option maxHeartbeats 4000000 in
theorem put32 (x : Nat) (hx : x < 4294967296) (w : World) :
  Calls Tryz.prog 262 #[.slice none 0 0,.int .u32 x] w fun e w' => ∃ v,e = .returned v ∧ w'.ownsRow w.heap.size 5 1 v 4 ((be 4 x).map cel) ∧ Below w.heap.size w w' := by
 have hmk : ∀ w : World,(Instr.makeSlice 85 (.int .i64 4) (.int .i64 4)).run Tryz.prog w = .ok (.slice (some ⟨w.heap.size,0,none⟩) 4 4) (w.alloc (.cells #[.int .u8 0,.int .u8 0,.int .u8 0,.int .u8 0] 5)) := fun _ => by kernel_rfl
 have hx1 : (x : Int) < 4294967296 := by omega
 go_enter Tryz.func262,Tryz.ntmps262
 go_wp2_with fail
 refine (width32 w).mono ?_
 rintro e w1 ⟨rfl,rfl⟩
 go_wp2_with (with_reducible refine wpList_copy_splice rfl (.tmp 14) (.tmp 15) 85 85 rfl 5 Tryz.underlying85 Tryz.sizeB (some ⟨w1.heap.size,0,none⟩) none 4 4 0 0 rfl rfl w1.heap.size 0 [.int .u8 0,.int .u8 0,.int .u8 0,.int .u8 0] 5 (heap_alloc_new _ _) [] ?hn ?hpos ?hfit ?h1 w1.heap.size w1 (one _ _) (Nat.le_refl _) ?_)
 case hn => rfl
 case hfit => simp
 case h1 => intro v hv;simp at hv
 intro w2 hg2 hb2
 have hown : w2.ownsRow w1.heap.size 5 1 (.slice (some ⟨w1.heap.size,0,none⟩) 4 4) 4 [.int .u8 0,.int .u8 0,.int .u8 0,.int .u8 0] := ⟨rfl,.inr ⟨_,4,_,rfl,Nat.le_refl _,hg2.out,Nat.le_refl _,by decide,rfl,rfl⟩⟩
 have c0 := hown.cellAt 0 (by omega)
 have c1 := hown.cellAt 1 (by omega)
 have c2 := hown.cellAt 2 (by omega)
 have c3 := hown.cellAt 3 (by omega)
 simp only [List.getElem?_cons_zero,List.getElem?_cons_succ] at c0 c1 c2 c3
 have hf := fun j => hown.frozenAt j
 have HO := Lib.hid hown
 have HB := Lib.hid hb2
 clear hown hb2 hg2
 go_wp2
 refine wp_loop_rounds 5 ?_
 rw [rounds_succ]
 go_wp2
 rw [rounds_succ]
 go_wp2
 rw [rounds_succ]
 go_wp2
 rw [rounds_succ]
 go_wp2
 rw [rounds_succ]
 go_wp2
 go_ret
 refine ⟨_,rfl,?_,((((HB.out.setCell (p := ⟨w1.heap.size,3,none⟩) (Nat.le_refl _) _).setCell (p := ⟨w1.heap.size,2,none⟩) (Nat.le_refl _) _).setCell (p := ⟨w1.heap.size,1,none⟩) (Nat.le_refl _) _).setCell (p := ⟨w1.heap.size,0,none⟩) (Nat.le_refl _) _)⟩
 rw [cells4_eq x hx]
 exact ((((HO.out.stored 3 _).1.stored 2 _).1.stored 1 _).1.stored 0 _).1
set_option maxRecDepth 20000 in
set_option maxHeartbeats 4000000 in
theorem put64 (x : Nat) (hx : x < 18446744073709551616) (w : World) :
  Calls Tryz.prog 263 #[.slice none 0 0,.int .u64 x] w fun e w' => ∃ v,e = .returned v ∧ w'.ownsRow w.heap.size 5 1 v 8 ((be 8 x).map cel) ∧ Below w.heap.size w w' := by
 have hmk : ∀ w : World,(Instr.makeSlice 85 (.int .i64 8) (.int .i64 8)).run Tryz.prog w = .ok (.slice (some ⟨w.heap.size,0,none⟩) 8 8) (w.alloc (.cells #[.int .u8 0,.int .u8 0,.int .u8 0,.int .u8 0,.int .u8 0,.int .u8 0,.int .u8 0,.int .u8 0] 5)) := fun _ => by kernel_rfl
 have hx1 : (x : Int) < 18446744073709551616 := by omega
 go_enter Tryz.func263,Tryz.ntmps263
 go_wp2_with fail
 refine (width64 w).mono ?_
 rintro e w1 ⟨rfl,rfl⟩
 go_wp2_with (with_reducible refine wpList_copy_splice rfl (.tmp 14) (.tmp 15) 85 85 rfl 5 Tryz.underlying85 Tryz.sizeB (some ⟨w1.heap.size,0,none⟩) none 8 8 0 0 rfl rfl w1.heap.size 0 [.int .u8 0,.int .u8 0,.int .u8 0,.int .u8 0,.int .u8 0,.int .u8 0,.int .u8 0,.int .u8 0] 5 (heap_alloc_new _ _) [] ?hn ?hpos ?hfit ?h1 w1.heap.size w1 (one _ _) (Nat.le_refl _) ?_)
 case hn => rfl
 case hfit => simp
 case h1 => intro v hv;simp at hv
 intro w2 hg2 hb2
 have hown : w2.ownsRow w1.heap.size 5 1 (.slice (some ⟨w1.heap.size,0,none⟩) 8 8) 8 [.int .u8 0,.int .u8 0,.int .u8 0,.int .u8 0,.int .u8 0,.int .u8 0,.int .u8 0,.int .u8 0] := ⟨rfl,.inr ⟨_,8,_,rfl,Nat.le_refl _,hg2.out,Nat.le_refl _,by decide,rfl,rfl⟩⟩
 have c0 := hown.cellAt 0 (by omega)
 have c1 := hown.cellAt 1 (by omega)
 have c2 := hown.cellAt 2 (by omega)
 have c3 := hown.cellAt 3 (by omega)
 have c4 := hown.cellAt 4 (by omega)
 have c5 := hown.cellAt 5 (by omega)
 have c6 := hown.cellAt 6 (by omega)
 have c7 := hown.cellAt 7 (by omega)
 simp only [List.getElem?_cons_zero,List.getElem?_cons_succ] at c0 c1 c2 c3 c4 c5 c6 c7
 have hf := fun j => hown.frozenAt j
 have HO := Lib.hid hown
 have HB := Lib.hid hb2
 clear hown hb2 hg2
 go_wp2
 refine wp_loop_rounds 9 ?_
 rw [rounds_succ]
 go_wp2
 rw [rounds_succ]
 go_wp2
 rw [rounds_succ]
 go_wp2
 rw [rounds_succ]
 go_wp2
 rw [rounds_succ]
 go_wp2
 rw [rounds_succ]
 go_wp2
 rw [rounds_succ]
 go_wp2
 rw [rounds_succ]
 go_wp2
 rw [rounds_succ]
 go_wp2
 go_ret
 refine ⟨_,rfl,?_,((((((((HB.out.setCell (p := ⟨w1.heap.size,7,none⟩) (Nat.le_refl _) _).setCell (p := ⟨w1.heap.size,6,none⟩) (Nat.le_refl _) _).setCell (p := ⟨w1.heap.size,5,none⟩) (Nat.le_refl _) _).setCell (p := ⟨w1.heap.size,4,none⟩) (Nat.le_refl _) _).setCell (p := ⟨w1.heap.size,3,none⟩) (Nat.le_refl _) _).setCell (p := ⟨w1.heap.size,2,none⟩) (Nat.le_refl _) _).setCell (p := ⟨w1.heap.size,1,none⟩) (Nat.le_refl _) _).setCell (p := ⟨w1.heap.size,0,none⟩) (Nat.le_refl _) _)⟩
 rw [cells8_eq x hx]
 exact ((((((((HO.out.stored 7 _).1.stored 6 _).1.stored 5 _).1.stored 4 _).1.stored 3 _).1.stored 2 _).1.stored 1 _).1.stored 0 _).1
theorem set_tail8 (l : List Value) (a b c d e f g h : Value) (hl : l.length = 8) : ((((((((l ++ ([.int .u8 0,.int .u8 0,.int .u8 0,.int .u8 0,.int .u8 0,.int .u8 0,.int .u8 0,.int .u8 0] : List Value)).set 15 a).set 14 b).set 13 c).set 12 d).set 11 e).set 10 f).set 9 g).set 8 h = l ++ [h,g,f,e,d,c,b,a] := by
 match l,hl with
 | [x0,x1,x2,x3,x4,x5,x6,x7],_ => rfl
theorem own_tail8 {w : World} {base g : Nat} {l : List UInt8} (hl : l.length = 8) (HO : w.ownsRow base 5 1 (.slice (some ⟨g,0,none⟩) 16 16) 16 (l.map cel ++ [.int .u8 0,.int .u8 0,.int .u8 0,.int .u8 0,.int .u8 0,.int .u8 0,.int .u8 0,.int .u8 0])) (a b c d e f h i : Value) :
  ((((((((w.setCell ⟨g,15,none⟩ a).setCell ⟨g,14,none⟩ b).setCell ⟨g,13,none⟩ c).setCell ⟨g,12,none⟩ d).setCell ⟨g,11,none⟩ e).setCell ⟨g,10,none⟩ f).setCell ⟨g,9,none⟩ h).setCell ⟨g,8,none⟩ i).ownsRow base 5 1 (.slice (some ⟨g,0,none⟩) 16 16) 16 (l.map cel ++ [i,h,f,e,d,c,b,a]) := by
 have hfin := ((((((((HO.stored 15 a).1.stored 14 b).1.stored 13 c).1.stored 12 d).1.stored 11 e).1.stored 10 f).1.stored 9 h).1.stored 8 i).1
 rw [set_tail8 (l.map cel) a b c d e f h i (by simpa using hl)] at hfin
 exact hfin
set_option maxRecDepth 20000 in
set_option maxHeartbeats 4000000 in
theorem put64b (x : Nat) (hx : x < 18446744073709551616) (w : World) (l : List UInt8) (hl : l.length = 8) (A : Option Addr) (c : Nat) (hs : Shows cel w w.heap.size A l) :
  Calls Tryz.prog 263 #[.slice A 8 c,.int .u64 x] w fun e w' => ∃ v,e = .returned v ∧ w'.ownsRow w.heap.size 5 1 v 16 ((l ++ be 8 x).map cel) ∧ Below w.heap.size w w' := by
 have hmk : ∀ w : World,(Instr.makeSlice 85 (.int .i64 16) (.int .i64 16)).run Tryz.prog w = .ok (.slice (some ⟨w.heap.size,0,none⟩) 16 16) (w.alloc (.cells #[.int .u8 0,.int .u8 0,.int .u8 0,.int .u8 0,.int .u8 0,.int .u8 0,.int .u8 0,.int .u8 0,.int .u8 0,.int .u8 0,.int .u8 0,.int .u8 0,.int .u8 0,.int .u8 0,.int .u8 0,.int .u8 0] 5)) := fun _ => by kernel_rfl
 have hx1 : (x : Int) < 18446744073709551616 := by omega
 obtain ⟨b,o,rfl,hbB,hcs⟩ := hs (by omega)
 have h1S : ∀ v ∈ l.map cel,v.oneCell' = true := fun v hv => by
  obtain ⟨y,-,rfl⟩ := List.mem_map.1 hv
  rfl
 have HCS := Lib.hid hcs
 clear hcs hs
 go_enter Tryz.func263,Tryz.ntmps263
 go_wp2_with fail
 refine (width64 w).mono ?_
 rintro e w1 ⟨rfl,rfl⟩
 go_wp2_with (with_reducible refine wpList_copy_splice rfl (.tmp 14) (.tmp 15) 85 85 rfl 5 Tryz.underlying85 Tryz.sizeB (some ⟨w1.heap.size,0,none⟩) (some ⟨b,o,none⟩) 16 16 8 c rfl rfl w1.heap.size 0 [.int .u8 0,.int .u8 0,.int .u8 0,.int .u8 0,.int .u8 0,.int .u8 0,.int .u8 0,.int .u8 0,.int .u8 0,.int .u8 0,.int .u8 0,.int .u8 0,.int .u8 0,.int .u8 0,.int .u8 0,.int .u8 0] 5 (heap_alloc_new _ _) (l.map cel) ?hn ?hpos ?hfit ?h1 w1.heap.size w1 (one _ _) (Nat.le_refl _) ?_)
 case hn => simp [hl]
 case hpos => exact HCS.out
 case hfit => simp [hl]
 case h1 => exact h1S
 intro w2 hg2 hb2
 have hg3 := hg2.out
 rw [show splice [.int .u8 0,.int .u8 0,.int .u8 0,.int .u8 0,.int .u8 0,.int .u8 0,.int .u8 0,.int .u8 0,.int .u8 0,.int .u8 0,.int .u8 0,.int .u8 0,.int .u8 0,.int .u8 0,.int .u8 0,.int .u8 0] 0 (l.map cel) = l.map cel ++ [.int .u8 0,.int .u8 0,.int .u8 0,.int .u8 0,.int .u8 0,.int .u8 0,.int .u8 0,.int .u8 0] by simp [splice,hl]] at hg3
 have hown : w2.ownsRow w1.heap.size 5 1 (.slice (some ⟨w1.heap.size,0,none⟩) 16 16) 16 (l.map cel ++ [.int .u8 0,.int .u8 0,.int .u8 0,.int .u8 0,.int .u8 0,.int .u8 0,.int .u8 0,.int .u8 0]) := ⟨by simp [hl],.inr ⟨_,16,_,rfl,Nat.le_refl _,hg3,Nat.le_refl _,by decide,by simp [hl],List.take_of_length_le (by simp [hl])⟩⟩
 have c8 : w2.cell? ⟨w1.heap.size,8,none⟩ = some (.int .u8 0) := (hown.cellAt 8 (by omega)).trans (by rw [List.getElem?_append_right (by rw [List.length_map,hl];omega),List.length_map,hl];rfl)
 have c9 : w2.cell? ⟨w1.heap.size,9,none⟩ = some (.int .u8 0) := (hown.cellAt 9 (by omega)).trans (by rw [List.getElem?_append_right (by rw [List.length_map,hl];omega),List.length_map,hl];rfl)
 have c10 : w2.cell? ⟨w1.heap.size,10,none⟩ = some (.int .u8 0) := (hown.cellAt 10 (by omega)).trans (by rw [List.getElem?_append_right (by rw [List.length_map,hl];omega),List.length_map,hl];rfl)
 have c11 : w2.cell? ⟨w1.heap.size,11,none⟩ = some (.int .u8 0) := (hown.cellAt 11 (by omega)).trans (by rw [List.getElem?_append_right (by rw [List.length_map,hl];omega),List.length_map,hl];rfl)
 have c12 : w2.cell? ⟨w1.heap.size,12,none⟩ = some (.int .u8 0) := (hown.cellAt 12 (by omega)).trans (by rw [List.getElem?_append_right (by rw [List.length_map,hl];omega),List.length_map,hl];rfl)
 have c13 : w2.cell? ⟨w1.heap.size,13,none⟩ = some (.int .u8 0) := (hown.cellAt 13 (by omega)).trans (by rw [List.getElem?_append_right (by rw [List.length_map,hl];omega),List.length_map,hl];rfl)
 have c14 : w2.cell? ⟨w1.heap.size,14,none⟩ = some (.int .u8 0) := (hown.cellAt 14 (by omega)).trans (by rw [List.getElem?_append_right (by rw [List.length_map,hl];omega),List.length_map,hl];rfl)
 have c15 : w2.cell? ⟨w1.heap.size,15,none⟩ = some (.int .u8 0) := (hown.cellAt 15 (by omega)).trans (by rw [List.getElem?_append_right (by rw [List.length_map,hl];omega),List.length_map,hl];rfl)
 have hf := fun j => hown.frozenAt j
 have HO := Lib.hid hown
 have HB := Lib.hid hb2
 clear hown hb2 hg2
 go_wp2
 refine wp_loop_rounds 9 ?_
 rw [rounds_succ]
 go_wp2
 rw [rounds_succ]
 go_wp2
 rw [rounds_succ]
 go_wp2
 rw [rounds_succ]
 go_wp2
 rw [rounds_succ]
 go_wp2
 rw [rounds_succ]
 go_wp2
 rw [rounds_succ]
 go_wp2
 rw [rounds_succ]
 go_wp2
 rw [rounds_succ]
 go_wp2
 go_ret
 refine ⟨_,rfl,?_,((((((((HB.out.setCell (p := ⟨w1.heap.size,15,none⟩) (Nat.le_refl _) _).setCell (p := ⟨w1.heap.size,14,none⟩) (Nat.le_refl _) _).setCell (p := ⟨w1.heap.size,13,none⟩) (Nat.le_refl _) _).setCell (p := ⟨w1.heap.size,12,none⟩) (Nat.le_refl _) _).setCell (p := ⟨w1.heap.size,11,none⟩) (Nat.le_refl _) _).setCell (p := ⟨w1.heap.size,10,none⟩) (Nat.le_refl _) _).setCell (p := ⟨w1.heap.size,9,none⟩) (Nat.le_refl _) _).setCell (p := ⟨w1.heap.size,8,none⟩) (Nat.le_refl _) _)⟩
 rw [List.map_append,cells8_eq x hx]
 exact own_tail8 hl HO.out _ _ _ _ _ _ _ _
end Go.Proofs.YtpkmekdpmkfcdaaGreatDoor.Pf
namespace Go.Proofs.YtpkmekdpmkfcdaaGreatDoor.Pf
open Go.RowKit Go.Proofs.YtpkmekdpmkfcdaaGreatDoor.Wd Go.Proofs.YtpkmekdpmkfcdaaGreatDoor.Px Go.Proofs.YtpkmekdpmkfcdaaGreatDoor.By
theorem own_slice {w : World} {base : Nat} {e : TypeId} {n : Nat} {v : Value} {xs : List Value} (h : w.ownsRow base e 1 v n xs) : ∃ A c,v = .slice A n c := by
 rcases h.2 with ⟨rfl,rfl⟩ | ⟨g,cap,_,rfl,_⟩
 ·have := h.1
  simp at this
  subst this
  exact ⟨_,_,rfl⟩
 ·exact ⟨_,_,rfl⟩
theorem own_shows {w : World} {base : Nat} {A : Option Addr} {n c : Nat} {l : List UInt8} (h : w.ownsRow base 5 1 (.slice A n c) n (l.map cel)) : Shows cel w w.heap.size A l := by
 have hn : l.length = n := by have := h.1;simpa using this
 subst hn
 exact Shows.of_own h
/-- an address's bytes -/
def paB (f : Int) (hi lo : Nat) : List UInt8 := if vA f hi lo = true then (if f = 4 then be 4 lo else be 8 hi ++ be 8 lo) else []
theorem paB_no {f : Int} {hi lo : Nat} (h : vA f hi lo = false) : paB f hi lo = [] := by unfold paB;rw [if_neg (by simp [h])]
theorem paB_4 {lo : Nat} (h : lo < 4294967296) : paB 4 0 lo = be 4 lo := by
 have : vA 4 0 lo = true := by rw [vA_iff];exact .inr ⟨rfl,rfl,h⟩
 simp [paB,this]
theorem paB_6 (hi lo : Nat) : paB 6 hi lo = be 8 hi ++ be 8 lo := by
 have : vA 6 hi lo = true := by rw [vA_iff];exact .inl rfl
 simp [paB,this]
theorem paB_len (f : Int) (hi lo : Nat) : (paB f hi lo).length ≤ 16 := by
 unfold paB
 split
 ·split
  ·rw [be_len];omega
  ·rw [List.length_append,be_len,be_len];omega
 ·simp
theorem putaddr_no (f : Int) (hi lo : Nat) (w : World) (HV : Hid (vA f hi lo = false)) :
  Calls Tryz.prog 234 #[.agg #[.int .i64 f,.int .u64 hi,.int .u64 lo]] w fun e w' => e = .returned (.slice none 0 0) ∧ Below w.heap.size w w' := by
 have hbl := one w (.cells #[.int .i64 f,.int .u64 hi,.int .u64 lo] 88)
 go_enter Tryz.func234,Tryz.ntmps234
 go_wp2_with fail
 refine (vaddr_as HV _).mono ?_
 rintro e w1 ⟨rfl,hb1⟩
 have hbl1 := hbl.trans (hb1.mono hbl.size)
 clear hbl hb1
 go_wp2
 go_ret
 exact ⟨rfl,hbl1⟩
theorem putaddr_4 (lo : Nat) (hlo : lo < 4294967296) (w : World) :
  Calls Tryz.prog 234 #[.agg #[.int .i64 4,.int .u64 0,.int .u64 lo]] w fun e w' => ∃ v,e = .returned v ∧ w'.ownsRow w.heap.size 5 1 v 4 ((be 4 lo).map cel) ∧ Below w.heap.size w w' := by
 have HV : Hid (vA 4 0 lo = true) := Lib.hid (by rw [vA_iff];exact .inr ⟨rfl,rfl,hlo⟩)
 have ha := ab_new w 4 0 lo 88
 have hbl := one w (.cells #[.int .i64 4,.int .u64 (0 : Nat),.int .u64 lo] 88)
 have hlo1 : (lo : Int) < 4294967296 := by omega
 go_enter Tryz.func234,Tryz.ntmps234
 go_wp2_with fail
 refine (vaddr_as HV _).mono ?_
 rintro e w1 ⟨rfl,hb1⟩
 have ha1 := ha.on hb1
 have hbl1 := hbl.trans (hb1.mono hbl.size)
 clear hbl hb1 ha
 obtain ⟨a0,a1,a2⟩ := ha1
 go_wp2_with fail
 refine (put32 lo hlo _).mono ?_
 rintro e w2 ⟨v,rfl,hown,hb2⟩
 have hbl2 := hbl1.trans (hb2.mono hbl1.size)
 have hown2 := own_base hown hbl1.size
 clear hown hb2 hbl1 a0 a1 a2
 go_wp2
 go_ret
 exact ⟨_,rfl,hown2,hbl2⟩
theorem keepA {w W W' : World} {B : Nat} {f : Int} {hi lo : Nat} (h : W.cell? ⟨B,0,none⟩ = some (.int .i64 f) ∧ W.cell? ⟨B,1,none⟩ = some (.int .u64 hi) ∧ W.cell? ⟨B,2,none⟩ = some (.int .u64 lo) ∧ Below w.heap.size w W) (hb : Below W.heap.size W W') :
  W'.cell? ⟨B,0,none⟩ = some (.int .i64 f) ∧ W'.cell? ⟨B,1,none⟩ = some (.int .u64 hi) ∧ W'.cell? ⟨B,2,none⟩ = some (.int .u64 lo) ∧ Below w.heap.size w W' :=
 ⟨keepc hb h.1,keepc hb h.2.1,keepc hb h.2.2.1,h.2.2.2.trans (hb.mono h.2.2.2.size)⟩
set_option maxRecDepth 20000 in
set_option maxHeartbeats 2000000 in
theorem putaddr_6 (hi lo : Nat) (hh : hi < 18446744073709551616) (hl : lo < 18446744073709551616) (w : World) :
  Calls Tryz.prog 234 #[.agg #[.int .i64 6,.int .u64 hi,.int .u64 lo]] w fun e w' => ∃ v,e = .returned v ∧ w'.ownsRow w.heap.size 5 1 v 16 ((be 8 hi ++ be 8 lo).map cel) ∧ Below w.heap.size w w' := by
 have HV : Hid (vA 6 hi lo = true) := Lib.hid (by rw [vA_iff];exact .inl rfl)
 have ha := ab_new w 6 hi lo 88
 have hbl := one w (.cells #[.int .i64 6,.int .u64 hi,.int .u64 lo] 88)
 go_enter Tryz.func234,Tryz.ntmps234
 go_wp2_with fail
 refine (vaddr_as HV _).mono ?_
 rintro e w1 ⟨rfl,hb1⟩
 have hbl1 := (hbl.trans (hb1.mono hbl.size)).drew
 have ha1 := ha.on hb1.drew
 clear hbl ha
 have ha0 := keepc hb1 (b := w.heap.size) (o := 0) (v := .int .i64 6) (by go_simp)
 clear hb1
 obtain ⟨a0,a1,a2⟩ := ha1
 go_upto_region 5 with fail
 go_region_held3 (fun W => W.cell? ⟨w.heap.size,0,none⟩ = some (.int .i64 6) ∧ W.cell? ⟨w.heap.size,1,none⟩ = some (.int .u64 hi) ∧ W.cell? ⟨w.heap.size,2,none⟩ = some (.int .u64 lo) ∧ Below w.heap.size w W)
  (first | exact ⟨a0,a1,a2,hbl1⟩ | assumption | exact keepA (by assumption) (by assumption))
  (first
   | (go_at_call 263;((with_reducible refine (put64 hi hh _).mono ?_);rintro e w2 ⟨v2,rfl,hown2,hb2⟩;obtain ⟨A2,k2,rfl⟩ := own_slice hown2))
   | (go_at_call 263;((with_reducible refine (put64b lo hl _ (be 8 hi) (be_len 8 hi) A2 k2 (own_shows hown2)).mono ?_);rintro e w3 ⟨v3,rfl,hown3,hb3⟩)))
 have hS : w3.cell? ⟨w.heap.size,0,none⟩ = some (.int .i64 6) ∧ w3.cell? ⟨w.heap.size,1,none⟩ = some (.int .u64 hi) ∧ w3.cell? ⟨w.heap.size,2,none⟩ = some (.int .u64 lo) ∧ Below w.heap.size w w3 := by assumption
 have hown4 := own_base hown3 (Nat.le_trans hbl1.size hb2.size)
 clear hown2 hown3 hb2 hb3 a0 a1 a2 ha0 hbl1
 go_wp2
 go_ret
 exact ⟨_,rfl,hown4,hS.2.2.2⟩
theorem putaddr_any (f : Int) (hi lo : Nat) (w : World) (hh : hi < 18446744073709551616) (hl : lo < 18446744073709551616) :
  Calls Tryz.prog 234 #[.agg #[.int .i64 f,.int .u64 hi,.int .u64 lo]] w fun e w' => ∃ v,e = .returned v ∧ w'.ownsRow w.heap.size 5 1 v (paB f hi lo).length ((paB f hi lo).map cel) ∧ Below w.heap.size w w' := by
 cases hv : vA f hi lo with
 | false =>
  rw [paB_no hv]
  refine (putaddr_no f hi lo w (Lib.hid hv)).mono ?_
  rintro e w' ⟨rfl,hb⟩
  exact ⟨_,rfl,World.ownsRow_nil _ _ _ _,hb⟩
 | true =>
  rcases (vA_iff f hi lo).1 hv with rfl | ⟨rfl,rfl,h3⟩
  ·rw [paB_6,show (be 8 hi ++ be 8 lo).length = 16 by rw [List.length_append,be_len,be_len]]
   exact putaddr_6 hi lo hh hl w
  ·rw [paB_4 h3,be_len]
   exact putaddr_4 lo h3 w
end Go.Proofs.YtpkmekdpmkfcdaaGreatDoor.Pf
namespace Go.Proofs.YtpkmekdpmkfcdaaGreatDoor.Pf
open Go.RowKit Go.Proofs.YtpkmekdpmkfcdaaGreatDoor.Wd Go.Proofs.YtpkmekdpmkfcdaaGreatDoor.Px Go.Proofs.YtpkmekdpmkfcdaaGreatDoor.By
/-- a prefix's bytes -/
def pB (f : Int) (hi lo : Nat) (b : Int) : List UInt8 := if vP f hi lo b = true then UInt8.ofNat f.toNat :: UInt8.ofNat b.toNat :: paB f hi lo else []
theorem pB_no {f : Int} {hi lo : Nat} {b : Int} (h : vP f hi lo b = false) : pB f hi lo b = [] := by unfold pB;rw [if_neg (by simp [h])]
theorem pB_yes {f : Int} {hi lo : Nat} {b : Int} (h : vP f hi lo b = true) : pB f hi lo b = UInt8.ofNat f.toNat :: UInt8.ofNat b.toNat :: paB f hi lo := by unfold pB;rw [if_pos h]
theorem own2A {W w2 : World} {base : Nat} {a b : Value} (hb : Below (W.alloc (.cells #[a,b] 5)).drew.heap.size (W.alloc (.cells #[a,b] 5)).drew w2) (hB : base ≤ W.heap.size) : w2.ownsRow base 5 1 (.slice (some ⟨W.heap.size,0,none⟩) 2 2) 2 [a,b] :=
 own_on (own_on (World.ownsRow_lit W #[a,b] 2 hB (by decide) rfl) (Below.refl _ _).drew) hb
theorem own2B {W : World} {base : Nat} {a b : Value} (hB : base ≤ W.heap.size) : (W.alloc (.cells #[a,b] 5)).ownsRow base 5 1 (.slice (some ⟨W.heap.size,0,none⟩) 2 2) 2 [a,b] :=
 World.ownsRow_lit W #[a,b] 2 hB (by decide) rfl
theorem keepPa {w W : World} {B : Nat} {f : Int} {hi lo : Nat} {b : Int} (o : Obj) (h : W.cell? ⟨B,0,none⟩ = some (.int .i64 f) ∧ W.cell? ⟨B,1,none⟩ = some (.int .u64 hi) ∧ W.cell? ⟨B,2,none⟩ = some (.int .u64 lo) ∧ W.cell? ⟨B,3,none⟩ = some (.int .i64 b) ∧ Below w.heap.size w W) :
  (W.alloc o).cell? ⟨B,0,none⟩ = some (.int .i64 f) ∧ (W.alloc o).cell? ⟨B,1,none⟩ = some (.int .u64 hi) ∧ (W.alloc o).cell? ⟨B,2,none⟩ = some (.int .u64 lo) ∧ (W.alloc o).cell? ⟨B,3,none⟩ = some (.int .i64 b) ∧ Below w.heap.size w (W.alloc o) :=
 ⟨keepc (one _ _) h.1,keepc (one _ _) h.2.1,keepc (one _ _) h.2.2.1,keepc (one _ _) h.2.2.2.1,h.2.2.2.2.alloc h.2.2.2.2.size o⟩
theorem keepP {w W W' : World} {B : Nat} {f : Int} {hi lo : Nat} {b : Int} (h : W.cell? ⟨B,0,none⟩ = some (.int .i64 f) ∧ W.cell? ⟨B,1,none⟩ = some (.int .u64 hi) ∧ W.cell? ⟨B,2,none⟩ = some (.int .u64 lo) ∧ W.cell? ⟨B,3,none⟩ = some (.int .i64 b) ∧ Below w.heap.size w W) (hb : Below W.heap.size W W') :
  W'.cell? ⟨B,0,none⟩ = some (.int .i64 f) ∧ W'.cell? ⟨B,1,none⟩ = some (.int .u64 hi) ∧ W'.cell? ⟨B,2,none⟩ = some (.int .u64 lo) ∧ W'.cell? ⟨B,3,none⟩ = some (.int .i64 b) ∧ Below w.heap.size w W' :=
 ⟨keepc hb h.1,keepc hb h.2.1,keepc hb h.2.2.1,keepc hb h.2.2.2.1,h.2.2.2.2.trans (hb.mono h.2.2.2.2.size)⟩
theorem keepG {w W W' : World} {B k : Nat} {f : Int} {hi lo : Nat} {b : Int} {m c : Nat} (h : W.cell? ⟨B,0,none⟩ = some (.int .i64 f) ∧ W.cell? ⟨B,1,none⟩ = some (.int .u64 hi) ∧ W.cell? ⟨B,2,none⟩ = some (.int .u64 lo) ∧ W.cell? ⟨B,3,none⟩ = some (.int .i64 b) ∧ Below w.heap.size w W)
  (hg : W.grownBy W' (Value.slice (some ⟨k,0,none⟩) m c).ownBlock) (hk : B < k) (hw : w.heap.size ≤ k) :
  W'.cell? ⟨B,0,none⟩ = some (.int .i64 f) ∧ W'.cell? ⟨B,1,none⟩ = some (.int .u64 hi) ∧ W'.cell? ⟨B,2,none⟩ = some (.int .u64 lo) ∧ W'.cell? ⟨B,3,none⟩ = some (.int .i64 b) ∧ Below w.heap.size w W' := by
 have hlt := World.block_lt_of_cell? W _ h.1
 have far : ∀ o,W'.cell? ⟨B,o,none⟩ = W.cell? ⟨B,o,none⟩ := fun o => hg.cell_far ⟨B,o,none⟩ hlt (by intro e;injection e with e;simp at e;omega)
 exact ⟨(far 0).trans h.1,(far 1).trans h.2.1,(far 2).trans h.2.2.1,(far 3).trans h.2.2.2.1,h.2.2.2.2.grown hg h.2.2.2.2.size (fun j hj => by injection hj with hj;simp at hj;omega)⟩
theorem cels_one (l : List UInt8) : ∀ u ∈ l.map cel,u.oneCell' = true := fun u hu => by
 obtain ⟨y,-,rfl⟩ := List.mem_map.1 hu
 rfl
theorem cel_nat (k : Nat) (h : k < 256) : cel (UInt8.ofNat k) = .int .u8 (k : Int) := celv k h
end Go.Proofs.YtpkmekdpmkfcdaaGreatDoor.Pf
