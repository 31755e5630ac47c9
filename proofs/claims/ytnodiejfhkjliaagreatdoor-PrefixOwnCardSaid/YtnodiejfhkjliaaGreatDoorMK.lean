/- Contracts: SameAddr, SamePrefix, num. Contract: 'first' of the statements on prefixes returns true. -/
import Derived.Test.YtnodiejfhkjliaaGreatDoorME
import Derived.Test.YtnodiejfhkjliaaGreatDoorMJ
import Derived.Test.YtnodiejfhkjliaaGreatDoorBytesA
namespace Go.Proofs.YtnodiejfhkjliaaGreatDoor.Pf
open Go.RowKit Go.Proofs.YtnodiejfhkjliaaGreatDoor.Wd Go.Proofs.YtnodiejfhkjliaaGreatDoor.Px Go.Proofs.YtnodiejfhkjliaaGreatDoor.By Go.Proofs.YtnodiejfhkjliaaGreatDoor.En Go.Proofs.YtnodiejfhkjliaaGreatDoor.Pl

theorem ret_b {a b : Bool} (h : a = b) : Ending.returned (.bool a) = .returned (.bool b) := by rw [h]
def smA (f h l f' h' l' : Int) : Bool := decide (f = f') && (decide (h = h') && decide (l = l'))
theorem smA_iff (f h l f' h' l' : Int) : smA f h l f' h' l' = true ↔ f = f' ∧ h = h' ∧ l = l' := by simp [smA]
def smP (f h l b f' h' l' b' : Int) : Bool := smA f h l f' h' l' && decide (b = b')
theorem two2 (w : World) (o o' : Obj) : Below w.heap.size w ((w.alloc o).alloc o') := (one w o).alloc (by simp) o'

theorem sameaddr_any (f h l f' h' l' : Int) (w : World) :
    Calls Tryz.prog 32 #[.agg #[.int .i64 f, .int .u64 h, .int .u64 l], .agg #[.int .i64 f', .int .u64 h', .int .u64 l']] w fun e w' => e = .returned (.bool (smA f h l f' h' l')) ∧ Below w.heap.size w w' := by
  go_enter Tryz.func32, Tryz.ntmps32
  go_wp2
  all_goals go_ret
  all_goals exact ⟨ret_b (by rw [Bool.eq_iff_iff]; simp_all [smA]), two2 _ _ _⟩
theorem samepre_any (f h l b f' h' l' b' : Int) (w : World) :
    Calls Tryz.prog 10 #[.agg #[.int .i64 f, .int .u64 h, .int .u64 l, .int .i64 b], .agg #[.int .i64 f', .int .u64 h', .int .u64 l', .int .i64 b']] w fun e w' => e = .returned (.bool (smP f h l b f' h' l' b')) ∧ Below w.heap.size w w' := by
  go_enter Tryz.func10, Tryz.ntmps10
  go_wp2_with fail
  refine (sameaddr_any _ _ _ _ _ _ _).mono ?_
  rintro e w1 ⟨rfl, hb1⟩
  have c0 := keepc hb1 (b := w.heap.size) (o := 3) (v := .int .i64 b) (by go_simp)
  have c1 := keepc hb1 (b := w.heap.size + 1) (o := 3) (v := .int .i64 b') (by go_simp)
  have hb := (two2 w (.cells #[.int .i64 f, .int .u64 h, .int .u64 l, .int .i64 b] 50) (.cells #[.int .i64 f', .int .u64 h', .int .u64 l', .int .i64 b'] 50)).trans (hb1.mono (by simp; omega))
  clear hb1
  cases hx : smA f h l f' h' l' with
  | true =>
    have HX := Lib.hid hx
    clear hx
    go_wp2
    go_ret
    exact ⟨ret_b (by rw [smP, HX.out]; simp; try rfl), hb⟩
  | false =>
    have HX := Lib.hid hx
    clear hx
    go_wp2
    go_ret
    exact ⟨ret_b (by rw [smP, HX.out]; rfl), hb⟩
theorem num_any (n : Int) (w : World) : Calls Tryz.prog 19 #[.int .i64 n] w fun e w' => e = .returned (.int .i64 n) ∧ w' = w := by
  go_enter Tryz.func19, Tryz.ntmps19
  go_wp2
  go_ret
  exact ⟨rfl, rfl⟩

end Go.Proofs.YtnodiejfhkjliaaGreatDoor.Pf

namespace Go.Proofs.YtnodiejfhkjliaaGreatDoor.Pf
open Go.Lib (decDigits)
open Go.RowKit Go.Proofs.YtnodiejfhkjliaaGreatDoor.Wd Go.Proofs.YtnodiejfhkjliaaGreatDoor.Px Go.Proofs.YtnodiejfhkjliaaGreatDoor.By Go.Proofs.YtnodiejfhkjliaaGreatDoor.En Go.Proofs.YtnodiejfhkjliaaGreatDoor.Pl

def txt1 : List UInt8 := [49, 48, 46, 49, 46, 48, 46, 48, 47, 49, 54]
def l6 : List UInt8 := [4, 16, 10, 1, 0, 0]
theorem vP_1 : vP 4 0 167837696 16 = true := by decide
theorem okP_1 : okP 4 167837696 16 = true := by decide
theorem dgs_1 : dgs 256 4 167837696 = [10, 1, 0, 0] := by decide
theorem prA_1 : prA 4 167837696 = [49, 48, 46, 49, 46, 48, 46, 48] := by
  rw [prA_4 _ (by omega), dgs_1]
  simp only [List.map_cons, List.map_nil]
  rw [Lib.decDigits_two (i := 10) (by omega) (by omega), Lib.decDigits_one (i := 1) (by omega), Lib.decDigits_one (i := 0) (by omega)]
  rfl
theorem prP_1 : prP 4 167837696 16 = txt1 := by
  rw [prP_of okP_1, prA_1, show ((16 : Int).toNat) = 16 from rfl, Lib.decDigits_two (i := 16) (by omega) (by omega)]
  rfl
theorem prsP_1 : prsP txt1 = some (4, 167837696, 16) := by rw [← prP_1]; exact prsP_prt okP_1
theorem pT_1 : pT 4 0 167837696 16 = txt1 := by
  have := pT_of (f := 4) (N := 167837696) (by decide) 16
  rw [prP_1] at this
  exact this
theorem pB_1 : pB 4 0 167837696 16 = l6 := by
  rw [pB_yes vP_1, paB_4 (by omega)]
  decide
theorem hld_1 : hld 4 0 167837696 16 4 0 167902979 = true := by decide

theorem put_1 (w : World) : Calls Tryz.prog 5 #[.agg #[.int .i64 4, .int .u64 0, .int .u64 167837696, .int .i64 16]] w fun e w' => ∃ A c, e = .returned (.slice A l6.length c) ∧ Shows cel w' w'.heap.size A l6 ∧ Below w.heap.size w w' := by
  refine Calls.mono (P := Tryz.prog) (f := 5) (put_any 4 0 167837696 16 w (by omega) (by omega)) ?_
  rintro e w' ⟨v, rfl, hown, hb⟩
  rw [pB_1] at hown
  obtain ⟨A, c, rfl⟩ := own_slice hown
  exact ⟨A, c, rfl, Shows.of_own (base := w.heap.size) (e := 5) hown, hb⟩
theorem print_1 (w : World) (hE : Env w) : Calls Tryz.prog 15 #[.agg #[.int .i64 4, .int .u64 0, .int .u64 167837696, .int .i64 16]] w fun e w' => e = .returned (.string ⟨txt1.toArray⟩) ∧ Below w.heap.size w w' := by
  refine Calls.mono (P := Tryz.prog) (f := 15) (print_any 4 0 167837696 16 w hE (by omega) (by omega)) ?_
  rintro e w' ⟨rfl, hb⟩
  rw [pT_1]
  exact ⟨rfl, hb⟩
theorem parse_1 (w : World) (hE : Env w) : Calls Tryz.prog 16 #[.string ⟨#[49, 48, 46, 49, 46, 48, 46, 48, 47, 49, 54]⟩] w fun e w' => e = .returned (.tuple #[.agg #[.int .i64 4, .int .u64 0, .int .u64 167837696, .int .i64 16], .int .i64 0]) ∧ Below w.heap.size w w' := by
  refine Calls.mono (P := Tryz.prog) (f := 16) (parse_any txt1 (by decide) w hE) ?_
  rintro e w' ⟨rfl, hb⟩
  refine ⟨?_, hb⟩
  rw [prsP_1]
  rfl
theorem shows_6 (w : World) (t : TypeId) : Shows cel (w.alloc (.cells #[.int .u8 4, .int .u8 16, .int .u8 10, .int .u8 1, .int .u8 0, .int .u8 0] t)) (w.alloc (.cells #[.int .u8 4, .int .u8 16, .int .u8 10, .int .u8 1, .int .u8 0, .int .u8 0] t)).heap.size (some ⟨w.heap.size, 0, none⟩) l6 := fun _ => by
  refine ⟨w.heap.size, 0, rfl, by simp, fun i x hx => ?_⟩
  have hi : i < 6 := (List.getElem?_eq_some_iff.1 hx).1
  rw [Nat.zero_add, World.cell?_alloc_at _ _ _ _ rfl]
  match i, hi with
  | 0, _ => injection hx with hx; subst hx; rfl
  | 1, _ => injection hx with hx; subst hx; rfl
  | 2, _ => injection hx with hx; subst hx; rfl
  | 3, _ => injection hx with hx; subst hx; rfl
  | 4, _ => injection hx with hx; subst hx; rfl
  | 5, _ => injection hx with hx; subst hx; rfl
theorem same_1 (A : Option Addr) (c : Nat) (w : World) (t : TypeId) (h : Shows cel w w.heap.size A l6) : Calls Tryz.prog 11 #[.slice A l6.length c, .slice (some ⟨w.heap.size, 0, none⟩) 6 6] (w.alloc (.cells #[.int .u8 4, .int .u8 16, .int .u8 10, .int .u8 1, .int .u8 0, .int .u8 0] t)) fun e w' => e = .returned (.bool true) ∧ Below w.heap.size w w' := by
  refine Calls.mono (P := Tryz.prog) (f := 11) (By.same_any l6 l6 A (some ⟨w.heap.size, 0, none⟩) c 6 _ (by decide) (h.on (one w _)) (shows_6 w t)) ?_
  rintro e w' ⟨rfl, hb⟩
  exact ⟨by simp, (one w _).trans (hb.mono (by simp))⟩
theorem samepre_1 (w : World) : Calls Tryz.prog 10 #[.agg #[.int .i64 4, .int .u64 0, .int .u64 167837696, .int .i64 16], .agg #[.int .i64 4, .int .u64 0, .int .u64 167837696, .int .i64 16]] w fun e w' => e = .returned (.bool true) ∧ Below w.heap.size w w' := samepre_any 4 0 167837696 16 4 0 167837696 16 w
theorem holds_1 (w : World) : Calls Tryz.prog 17 #[.agg #[.int .i64 4, .int .u64 0, .int .u64 167837696, .int .i64 16], .agg #[.int .i64 4, .int .u64 0, .int .u64 167902979]] w fun e w' => e = .returned (.bool true) ∧ Below w.heap.size w w' := by
  refine Calls.mono (P := Tryz.prog) (f := 17) (vholds_any 4 0 167837696 16 4 0 167902979 w (by omega) (by omega) (by omega) (by omega)) ?_
  rintro e w' ⟨rfl, hb⟩
  rw [hld_1]
  exact ⟨rfl, hb⟩
theorem valid_1 (w : World) : Calls Tryz.prog 18 #[.agg #[.int .i64 4, .int .u64 0, .int .u64 167837696, .int .i64 16]] w fun e w' => e = .returned (.bool true) ∧ Below w.heap.size w w' := by
  refine Calls.mono (P := Tryz.prog) (f := 18) (vvalid_any 4 0 167837696 16 w (by omega) (by omega)) ?_
  rintro e w' ⟨rfl, hb⟩
  rw [vP_1]
  exact ⟨rfl, hb⟩

set_option maxRecDepth 20000 in
set_option maxHeartbeats 4000000 in
theorem first_any (w : World) (hE : Env w) : Calls Tryz.prog 4 #[] w fun e w' => e = .returned (.bool true) ∧ Below w.heap.size w w' := by
  have htxt : (txt1 == [49, 48, 46, 49, 46, 48, 46, 48, 47, 49, 54]) = true := by decide
  go_enter Tryz.func4, Tryz.ntmps4
  go_wp2_with fail
  refine (put_1 _).mono ?_
  rintro e w1 ⟨A1, k1, rfl, hs1, hb1⟩
  have bo1 : Below w.heap.size w w1 := ((Below.refl _ w).alloc (Nat.le_refl _) _).trans (hb1.mono (by simp <;> omega))
  have c1_0 := keepc hb1 (b := w.heap.size) (o := 0) (v := .int .i64 4) (by go_simp)
  have c1_1 := keepc hb1 (b := w.heap.size) (o := 1) (v := .int .u64 0) (by go_simp)
  have c1_2 := keepc hb1 (b := w.heap.size) (o := 2) (v := .int .u64 167837696) (by go_simp)
  have c1_3 := keepc hb1 (b := w.heap.size) (o := 3) (v := .int .i64 16) (by go_simp)
  have l1 : w.heap.size < w1.heap.size := by
    have := hb1.size
    try simp at this
    omega
  have bl1 : Below w.heap.size w w1 := (Below.refl _ _).trans (bo1.mono (Nat.le_refl _))
  clear hb1 bo1
  go_wp2_with fail
  refine (same_1 _ _ _ _ hs1).mono ?_
  rintro e w2 ⟨rfl, hb2⟩
  have bo2 := hb2
  have c1_0_2 := keepc bo2 c1_0
  have c1_1_2 := keepc bo2 c1_1
  have c1_2_2 := keepc bo2 c1_2
  have c1_3_2 := keepc bo2 c1_3
  have l1_2 := Nat.lt_of_lt_of_le l1 bo2.size
  have hs1_2 := hs1.on bo2
  have bl2 : Below w.heap.size w w2 := bl1.trans (bo2.mono bl1.size)
  clear c1_0 c1_1 c1_2 c1_3 l1 hs1 bl1 hb2 bo2
  have E2 := hE.on (bl2)
  go_wp2_with fail
  refine (print_1 _ E2).mono ?_
  rintro e w3 ⟨rfl, hb3⟩
  have bo3 := hb3
  have c1_0_3 := keepc bo3 c1_0_2
  have c1_1_3 := keepc bo3 c1_1_2
  have c1_2_3 := keepc bo3 c1_2_2
  have c1_3_3 := keepc bo3 c1_3_2
  have l1_3 := Nat.lt_of_lt_of_le l1_2 bo3.size
  have bl3 : Below w.heap.size w w3 := bl2.trans (bo3.mono bl2.size)
  clear c1_0_2 c1_1_2 c1_2_2 c1_3_2 l1_2 bl2 hb3 bo3 E2
  have E3 := hE.on (bl3)
  go_wp2_with fail
  refine (parse_1 _ E3).mono ?_
  rintro e w4 ⟨rfl, hb4⟩
  have bo4 := hb4
  have c1_0_4 := keepc bo4 c1_0_3
  have c1_1_4 := keepc bo4 c1_1_3
  have c1_2_4 := keepc bo4 c1_2_3
  have c1_3_4 := keepc bo4 c1_3_3
  have l1_4 := Nat.lt_of_lt_of_le l1_3 bo4.size
  have bl4 : Below w.heap.size w w4 := bl3.trans (bo4.mono bl3.size)
  clear c1_0_3 c1_1_3 c1_2_3 c1_3_3 l1_3 bl3 hb4 bo4 E3
  go_wp2_with fail
  refine (samepre_1 _).mono ?_
  rintro e w5 ⟨rfl, hb5⟩
  have bo5 : Below w4.heap.size w4 w5 := ((Below.refl _ w4).alloc (Nat.le_refl _) _).trans (hb5.mono (by simp <;> omega))
  have c1_0_5 := keepc bo5 c1_0_4
  have c1_1_5 := keepc bo5 c1_1_4
  have c1_2_5 := keepc bo5 c1_2_4
  have c1_3_5 := keepc bo5 c1_3_4
  have l1_5 := Nat.lt_of_lt_of_le l1_4 bo5.size
  have c2_0 := keepc hb5 (b := w4.heap.size) (o := 0) (v := .int .i64 4) (by go_simp)
  have c2_1 := keepc hb5 (b := w4.heap.size) (o := 1) (v := .int .u64 0) (by go_simp)
  have c2_2 := keepc hb5 (b := w4.heap.size) (o := 2) (v := .int .u64 167837696) (by go_simp)
  have c2_3 := keepc hb5 (b := w4.heap.size) (o := 3) (v := .int .i64 16) (by go_simp)
  have l2 : w4.heap.size < w5.heap.size := by
    have := hb5.size
    try simp at this
    omega
  have bl5 : Below w.heap.size w w5 := bl4.trans (bo5.mono bl4.size)
  clear c1_0_4 c1_1_4 c1_2_4 c1_3_4 l1_4 bl4 hb5 bo5
  go_wp2_with fail
  refine (holds_1 _).mono ?_
  rintro e w6 ⟨rfl, hb6⟩
  have bo6 := hb6
  have c1_0_6 := keepc bo6 c1_0_5
  have c1_1_6 := keepc bo6 c1_1_5
  have c1_2_6 := keepc bo6 c1_2_5
  have c1_3_6 := keepc bo6 c1_3_5
  have l1_6 := Nat.lt_of_lt_of_le l1_5 bo6.size
  have c2_0_6 := keepc bo6 c2_0
  have c2_1_6 := keepc bo6 c2_1
  have c2_2_6 := keepc bo6 c2_2
  have c2_3_6 := keepc bo6 c2_3
  have l2_6 := Nat.lt_of_lt_of_le l2 bo6.size
  have bl6 : Below w.heap.size w w6 := bl5.trans (bo6.mono bl5.size)
  clear c1_0_5 c1_1_5 c1_2_5 c1_3_5 l1_5 c2_0 c2_1 c2_2 c2_3 l2 bl5 hb6 bo6
  go_wp2_with fail
  refine (valid_1 _).mono ?_
  rintro e w7 ⟨rfl, hb7⟩
  have bo7 := hb7
  have c1_0_7 := keepc bo7 c1_0_6
  have c1_1_7 := keepc bo7 c1_1_6
  have c1_2_7 := keepc bo7 c1_2_6
  have c1_3_7 := keepc bo7 c1_3_6
  have l1_7 := Nat.lt_of_lt_of_le l1_6 bo7.size
  have c2_0_7 := keepc bo7 c2_0_6
  have c2_1_7 := keepc bo7 c2_1_6
  have c2_2_7 := keepc bo7 c2_2_6
  have c2_3_7 := keepc bo7 c2_3_6
  have l2_7 := Nat.lt_of_lt_of_le l2_6 bo7.size
  have bl7 : Below w.heap.size w w7 := bl6.trans (bo7.mono bl6.size)
  clear c1_0_6 c1_1_6 c1_2_6 c1_3_6 l1_6 c2_0_6 c2_1_6 c2_2_6 c2_3_6 l2_6 bl6 hb7 bo7
  go_wp2_with (go_at_call 19; refine (num_any _ _).mono ?_; rintro e w' ⟨rfl, rfl⟩)
  go_ret
  exact ⟨rfl, bl7⟩

end Go.Proofs.YtnodiejfhkjliaaGreatDoor.Pf
