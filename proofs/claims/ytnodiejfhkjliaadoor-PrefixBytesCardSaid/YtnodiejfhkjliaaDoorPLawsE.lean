/- The walks of statements on prefixes. -/
import Derived.Test.YtnodiejfhkjliaaDoorPLawsA
import Derived.Test.YtnodiejfhkjliaaDoorRPutB
namespace Go.Proofs.YtnodiejfhkjliaaDoor.Pf
open Go.RowKit Go.Proofs.YtnodiejfhkjliaaDoor.Wd Go.Proofs.YtnodiejfhkjliaaDoor.Px Go.Proofs.YtnodiejfhkjliaaDoor.By Go.Proofs.YtnodiejfhkjliaaDoor.En Go.Proofs.YtnodiejfhkjliaaDoor.Pl

theorem row_as {f : FuncId} {args : Array Value} {w : World} {x X : List UInt8} (h : Hid (x = X)) (hc : Calls Tryd.prog f args w fun e w' => ∃ v, e = .returned v ∧ w'.ownsRow w.heap.size 5 1 v x.length (x.map cel) ∧ Below w.heap.size w w') :
    Calls Tryd.prog f args w fun e w' => ∃ A c, e = .returned (.slice A X.length c) ∧ Shows cel w' w'.heap.size A X ∧ Below w.heap.size w w' := by
  refine hc.mono ?_
  rintro e w' ⟨v, rfl, hown, hb⟩
  rw [h.out] at hown
  obtain ⟨A, c, rfl⟩ := own_slice hown
  exact ⟨A, c, rfl, Shows.of_own (base := w.heap.size) (e := 5) hown, hb⟩
theorem same_row {X : List UInt8} (A B : Option Addr) (c d : Nat) (w : World) (hl : X.length ≤ 18) (ha : Shows cel w w.heap.size A X) (hb : Shows cel w w.heap.size B X) :
    Calls Tryd.prog 24 #[.slice A X.length c, .slice B X.length d] w fun e w' => e = .returned (.bool true) ∧ Below w.heap.size w w' := by
  have := By.same_any X X A B c d w (by omega) ha hb
  rwa [decide_eq_true rfl] at this

set_option maxRecDepth 20000 in
set_option maxHeartbeats 4000000 in
theorem prefixBytes_law (f : Int) (hi lo : Nat) (b : Int) (hh : hi < 18446744073709551616) (hl : lo < 18446744073709551616) (w : World) (hE : Env w) :
    Calls Tryd.prog 5 #[.agg #[.int .i64 f, .int .u64 hi, .int .u64 lo, .int .i64 b]] w fun e w' => e = .returned (.bool true) ∧ Below w.heap.size w w' := by
  obtain ⟨X, hX⟩ : ∃ X, paB f hi lo = X := ⟨_, rfl⟩
  obtain ⟨Y, hY⟩ : ∃ Y, pB f hi lo b = Y := ⟨_, rfl⟩
  have hx := paB_len f hi lo
  have hy := pB_len f hi lo b
  rw [hX] at hx
  rw [hY] at hy
  have hx18 : X.length ≤ 18 := by omega
  have HX := Lib.hid hX
  have HY := Lib.hid hY
  clear hX hY hx
  go_enter Tryd.func5, Tryd.ntmps5
  go_wp2_with fail
  refine (row_as HX (putaddr_any f hi lo _ hh hl)).mono ?_
  rintro e w1 ⟨A1, k1, rfl, s1, hb1⟩
  have bo1 : Below w.heap.size w w1 := ((Below.refl _ w).alloc (Nat.le_refl _) _).trans (hb1.mono (by simp <;> omega))
  have c1_0 := keepc hb1 (b := w.heap.size) (o := 0) (v := .int .i64 f) (by go_simp)
  have c1_1 := keepc hb1 (b := w.heap.size) (o := 1) (v := .int .u64 hi) (by go_simp)
  have c1_2 := keepc hb1 (b := w.heap.size) (o := 2) (v := .int .u64 lo) (by go_simp)
  have c1_3 := keepc hb1 (b := w.heap.size) (o := 3) (v := .int .i64 b) (by go_simp)
  have l1 : w.heap.size < w1.heap.size := by
    have := hb1.size
    try simp at this
    omega
  have bl1 : Below w.heap.size w w1 := (Below.refl _ _).trans (bo1.mono (Nat.le_refl _))
  clear hb1 bo1
  go_wp2_with fail
  refine (row_as HX (rputaddr_any f hi lo _ hh hl)).mono ?_
  rintro e w2 ⟨A2, k2, rfl, s2, hb2⟩
  have bo2 := hb2
  have c1_0_2 := keepc bo2 c1_0
  have c1_1_2 := keepc bo2 c1_1
  have c1_2_2 := keepc bo2 c1_2
  have c1_3_2 := keepc bo2 c1_3
  have l1_2 := Nat.lt_of_lt_of_le l1 bo2.size
  have s1_2 := s1.on bo2
  have bl2 : Below w.heap.size w w2 := bl1.trans (bo2.mono bl1.size)
  clear c1_0 c1_1 c1_2 c1_3 l1 s1 bl1 hb2 bo2
  go_wp2_with fail
  refine (row_as HY (put_any f hi lo b _ hh hl)).mono ?_
  rintro e w3 ⟨A3, k3, rfl, s3, hb3⟩
  have bo3 := hb3
  have c1_0_3 := keepc bo3 c1_0_2
  have c1_1_3 := keepc bo3 c1_1_2
  have c1_2_3 := keepc bo3 c1_2_2
  have c1_3_3 := keepc bo3 c1_3_2
  have l1_3 := Nat.lt_of_lt_of_le l1_2 bo3.size
  have s1_3 := s1_2.on bo3
  have s2_3 := s2.on bo3
  have bl3 : Below w.heap.size w w3 := bl2.trans (bo3.mono bl2.size)
  clear c1_0_2 c1_1_2 c1_2_2 c1_3_2 l1_2 s1_2 s2 bl2 hb3 bo3
  go_wp2_with fail
  refine (row_as HY (rput_any f hi lo b _ hh hl)).mono ?_
  rintro e w4 ⟨A4, k4, rfl, s4, hb4⟩
  have bo4 := hb4
  have c1_0_4 := keepc bo4 c1_0_3
  have c1_1_4 := keepc bo4 c1_1_3
  have c1_2_4 := keepc bo4 c1_2_3
  have c1_3_4 := keepc bo4 c1_3_3
  have l1_4 := Nat.lt_of_lt_of_le l1_3 bo4.size
  have s1_4 := s1_3.on bo4
  have s2_4 := s2_3.on bo4
  have s3_4 := s3.on bo4
  have bl4 : Below w.heap.size w w4 := bl3.trans (bo4.mono bl3.size)
  clear c1_0_3 c1_1_3 c1_2_3 c1_3_3 l1_3 s1_3 s2_3 s3 bl3 hb4 bo4
  go_wp2_with fail
  refine (same_row _ _ _ _ _ hx18 s1_4 s2_4).mono ?_
  rintro e w5 ⟨rfl, hb5⟩
  have bo5 := hb5
  have c1_0_5 := keepc bo5 c1_0_4
  have c1_1_5 := keepc bo5 c1_1_4
  have c1_2_5 := keepc bo5 c1_2_4
  have c1_3_5 := keepc bo5 c1_3_4
  have l1_5 := Nat.lt_of_lt_of_le l1_4 bo5.size
  have s1_5 := s1_4.on bo5
  have s2_5 := s2_4.on bo5
  have s3_5 := s3_4.on bo5
  have s4_5 := s4.on bo5
  have bl5 : Below w.heap.size w w5 := bl4.trans (bo5.mono bl4.size)
  clear c1_0_4 c1_1_4 c1_2_4 c1_3_4 l1_4 s1_4 s2_4 s3_4 s4 bl4 hb5 bo5
  go_wp2_with fail
  refine (same_row _ _ _ _ _ hy s3_5 s4_5).mono ?_
  rintro e w6 ⟨rfl, hb6⟩
  have bo6 := hb6
  have c1_0_6 := keepc bo6 c1_0_5
  have c1_1_6 := keepc bo6 c1_1_5
  have c1_2_6 := keepc bo6 c1_2_5
  have c1_3_6 := keepc bo6 c1_3_5
  have l1_6 := Nat.lt_of_lt_of_le l1_5 bo6.size
  have s1_6 := s1_5.on bo6
  have s2_6 := s2_5.on bo6
  have s3_6 := s3_5.on bo6
  have s4_6 := s4_5.on bo6
  have bl6 : Below w.heap.size w w6 := bl5.trans (bo6.mono bl5.size)
  clear c1_0_5 c1_1_5 c1_2_5 c1_3_5 l1_5 s1_5 s2_5 s3_5 s4_5 bl5 hb6 bo6
  have E6 := hE.on (bl6)
  go_wp2_with fail
  refine (first_any _ E6).mono ?_
  rintro e w7 ⟨rfl, hb7⟩
  have bo7 := hb7
  have c1_0_7 := keepc bo7 c1_0_6
  have c1_1_7 := keepc bo7 c1_1_6
  have c1_2_7 := keepc bo7 c1_2_6
  have c1_3_7 := keepc bo7 c1_3_6
  have l1_7 := Nat.lt_of_lt_of_le l1_6 bo7.size
  have s1_7 := s1_6.on bo7
  have s2_7 := s2_6.on bo7
  have s3_7 := s3_6.on bo7
  have s4_7 := s4_6.on bo7
  have bl7 : Below w.heap.size w w7 := bl6.trans (bo7.mono bl6.size)
  clear c1_0_6 c1_1_6 c1_2_6 c1_3_6 l1_6 s1_6 s2_6 s3_6 s4_6 bl6 hb7 bo7 E6
  go_wp2
  go_ret
  exact ⟨rfl, bl7⟩


end Go.Proofs.YtnodiejfhkjliaaDoor.Pf
