/- Contracts: SameAddr, SamePrefix, num. Contract: 'first' of the statements on prefixes returns true. -/
import Derived.Test.YtpkmekdpmkfcdaaGreatDoorME
import Derived.Test.YtpkmekdpmkfcdaaGreatDoorMJ
import Derived.Test.YtpkmekdpmkfcdaaGreatDoorBytesA
namespace Go.Proofs.YtpkmekdpmkfcdaaGreatDoor.Pf
open Go.RowKit Go.Proofs.YtpkmekdpmkfcdaaGreatDoor.Wd Go.Proofs.YtpkmekdpmkfcdaaGreatDoor.Px Go.Proofs.YtpkmekdpmkfcdaaGreatDoor.By Go.Proofs.YtpkmekdpmkfcdaaGreatDoor.En Go.Proofs.YtpkmekdpmkfcdaaGreatDoor.Pl
theorem ret_b {a b : Bool} (h : a = b) : Ending.returned (.bool a) = .returned (.bool b) := by rw [h]
def smA (f h l f' h' l' : Int) : Bool := decide (f = f') && (decide (h = h') && decide (l = l'))
def smP (f h l b f' h' l' b' : Int) : Bool := smA f h l f' h' l' && decide (b = b')
theorem two2 (w : World) (o o' : Obj) : Below w.heap.size w ((w.alloc o).alloc o') := (one w o).alloc (by simp) o'
theorem sameaddr_any (f h l f' h' l' : Int) (w : World) :
  Calls Tryz.prog 154 #[.agg #[.int .i64 f,.int .u64 h,.int .u64 l],.agg #[.int .i64 f',.int .u64 h',.int .u64 l']] w fun e w' => e = .returned (.bool (smA f h l f' h' l')) ∧ Below w.heap.size w w' := by
 go_enter Tryz.func154,Tryz.ntmps154
 go_wp2
 all_goals go_ret
 all_goals exact ⟨ret_b (by rw [Bool.eq_iff_iff];simp_all [smA]),two2 _ _ _⟩
theorem samepre_any (f h l b f' h' l' b' : Int) (w : World) :
  Calls Tryz.prog 63 #[.agg #[.int .i64 f,.int .u64 h,.int .u64 l,.int .i64 b],.agg #[.int .i64 f',.int .u64 h',.int .u64 l',.int .i64 b']] w fun e w' => e = .returned (.bool (smP f h l b f' h' l' b')) ∧ Below w.heap.size w w' := by
 go_enter Tryz.func63,Tryz.ntmps63
 go_wp2_with fail
 refine (sameaddr_any _ _ _ _ _ _ _).mono ?_
 rintro e w1 ⟨rfl,hb1⟩
 have c0 := keepc hb1 (b := w.heap.size) (o := 3) (v := .int .i64 b) (by go_simp)
 have c1 := keepc hb1 (b := w.heap.size + 1) (o := 3) (v := .int .i64 b') (by go_simp)
 have hb := (two2 w (.cells #[.int .i64 f,.int .u64 h,.int .u64 l,.int .i64 b] 90) (.cells #[.int .i64 f',.int .u64 h',.int .u64 l',.int .i64 b'] 90)).trans (hb1.mono (by simp;omega))
 clear hb1
 cases hx : smA f h l f' h' l' with
 | true =>
  have HX := Lib.hid hx
  clear hx
  go_wp2
  go_ret
  exact ⟨ret_b (by rw [smP,HX.out];simp;try rfl),hb⟩
 | false =>
  have HX := Lib.hid hx
  clear hx
  go_wp2
  go_ret
  exact ⟨ret_b (by rw [smP,HX.out];rfl),hb⟩
end Go.Proofs.YtpkmekdpmkfcdaaGreatDoor.Pf
namespace Go.Proofs.YtpkmekdpmkfcdaaGreatDoor.Pf
open Go.Lib (decDigits)
open Go.RowKit Go.Proofs.YtpkmekdpmkfcdaaGreatDoor.Wd Go.Proofs.YtpkmekdpmkfcdaaGreatDoor.Px Go.Proofs.YtpkmekdpmkfcdaaGreatDoor.By Go.Proofs.YtpkmekdpmkfcdaaGreatDoor.En Go.Proofs.YtpkmekdpmkfcdaaGreatDoor.Pl
def txt1 : List UInt8 := [49,48,46,49,46,48,46,48,47,49,54]
def l6 : List UInt8 := [4,16,10,1,0,0]
theorem vP_1 : vP 4 0 167837696 16 = true := by decide
theorem okP_1 : okP 4 167837696 16 = true := by decide
theorem dgs_1 : dgs 256 4 167837696 = [10,1,0,0] := by decide
theorem prA_1 : prA 4 167837696 = [49,48,46,49,46,48,46,48] := by
 rw [prA_4 _ (by omega),dgs_1]
 simp only [List.map_cons,List.map_nil]
 rw [Lib.decDigits_two (i := 10) (by omega) (by omega),Lib.decDigits_one (i := 1) (by omega),Lib.decDigits_one (i := 0) (by omega)]
 rfl
theorem prP_1 : prP 4 167837696 16 = txt1 := by
 rw [prP_of okP_1,prA_1,show ((16 : Int).toNat) = 16 from rfl,Lib.decDigits_two (i := 16) (by omega) (by omega)]
 rfl
theorem prsP_1 : prsP txt1 = some (4,167837696,16) := by rw [← prP_1];exact prsP_prt okP_1
theorem pT_1 : pT 4 0 167837696 16 = txt1 := by
 have := pT_of (f := 4) (N := 167837696) (by decide) 16
 rw [prP_1] at this
 exact this
theorem pB_1 : pB 4 0 167837696 16 = l6 := by
 rw [pB_yes vP_1,paB_4 (by omega)]
 decide
theorem hld_1 : hld 4 0 167837696 16 4 0 167902979 = true := by decide
theorem print_1 (w : World) (hE : Env w) : Calls Tryz.prog 66 #[.agg #[.int .i64 4,.int .u64 0,.int .u64 167837696,.int .i64 16]] w fun e w' => e = .returned (.string ⟨txt1.toArray⟩) ∧ Below w.heap.size w w' := by
 refine Calls.mono (P := Tryz.prog) (f := 66) (print_any 4 0 167837696 16 w hE (by omega) (by omega)) ?_
 rintro e w' ⟨rfl,hb⟩
 rw [pT_1]
 exact ⟨rfl,hb⟩
theorem parse_1 (w : World) (hE : Env w) : Calls Tryz.prog 151 #[.string ⟨#[49,48,46,49,46,48,46,48,47,49,54]⟩] w fun e w' => e = .returned (.tuple #[.agg #[.int .i64 4,.int .u64 0,.int .u64 167837696,.int .i64 16],.int .i64 0]) ∧ Below w.heap.size w w' := by
 refine Calls.mono (P := Tryz.prog) (f := 151) (parse_any txt1 (by decide) w hE) ?_
 rintro e w' ⟨rfl,hb⟩
 refine ⟨?_,hb⟩
 rw [prsP_1]
 rfl
theorem shows_6 (w : World) (t : TypeId) : Shows cel (w.alloc (.cells #[.int .u8 4,.int .u8 16,.int .u8 10,.int .u8 1,.int .u8 0,.int .u8 0] t)) (w.alloc (.cells #[.int .u8 4,.int .u8 16,.int .u8 10,.int .u8 1,.int .u8 0,.int .u8 0] t)).heap.size (some ⟨w.heap.size,0,none⟩) l6 := fun _ => by
 refine ⟨w.heap.size,0,rfl,by simp,fun i x hx => ?_⟩
 have hi : i < 6 := (List.getElem?_eq_some_iff.1 hx).1
 rw [Nat.zero_add,World.cell?_alloc_at _ _ _ _ rfl]
 match i,hi with
 | 0,_ => injection hx with hx;subst hx;rfl
 | 1,_ => injection hx with hx;subst hx;rfl
 | 2,_ => injection hx with hx;subst hx;rfl
 | 3,_ => injection hx with hx;subst hx;rfl
 | 4,_ => injection hx with hx;subst hx;rfl
 | 5,_ => injection hx with hx;subst hx;rfl
theorem same_1 (A : Option Addr) (c : Nat) (w : World) (t : TypeId) (h : Shows cel w w.heap.size A l6) : Calls Tryz.prog 62 #[.slice A l6.length c,.slice (some ⟨w.heap.size,0,none⟩) 6 6] (w.alloc (.cells #[.int .u8 4,.int .u8 16,.int .u8 10,.int .u8 1,.int .u8 0,.int .u8 0] t)) fun e w' => e = .returned (.bool true) ∧ Below w.heap.size w w' := by
 refine Calls.mono (P := Tryz.prog) (f := 62) (By.same_any l6 l6 A (some ⟨w.heap.size,0,none⟩) c 6 _ (by decide) (h.on (one w _)) (shows_6 w t)) ?_
 rintro e w' ⟨rfl,hb⟩
 exact ⟨by simp,(one w _).trans (hb.mono (by simp))⟩
theorem samepre_1 (w : World) : Calls Tryz.prog 63 #[.agg #[.int .i64 4,.int .u64 0,.int .u64 167837696,.int .i64 16],.agg #[.int .i64 4,.int .u64 0,.int .u64 167837696,.int .i64 16]] w fun e w' => e = .returned (.bool true) ∧ Below w.heap.size w w' := samepre_any 4 0 167837696 16 4 0 167837696 16 w
theorem valid_1 (w : World) : Calls Tryz.prog 65 #[.agg #[.int .i64 4,.int .u64 0,.int .u64 167837696,.int .i64 16]] w fun e w' => e = .returned (.bool true) ∧ Below w.heap.size w w' := by
 refine Calls.mono (P := Tryz.prog) (f := 65) (vvalid_any 4 0 167837696 16 w (by omega) (by omega)) ?_
 rintro e w' ⟨rfl,hb⟩
 rw [vP_1]
 exact ⟨rfl,hb⟩
end Go.Proofs.YtpkmekdpmkfcdaaGreatDoor.Pf
