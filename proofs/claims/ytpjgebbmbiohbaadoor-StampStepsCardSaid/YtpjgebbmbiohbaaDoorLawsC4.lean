/- The walk of StampSteps. -/
import Derived.Test.YtpjgebbmbiohbaaDoorLawsC0
import Derived.Deep.DeepCutAuto
namespace Go.Proofs.YtpjgebbmbiohbaaDoor.St
open Go.RowKit Go.Proofs.YtpjgebbmbiohbaaDoor.Wd Go.Proofs.YtpjgebbmbiohbaaDoor.Pl Go.Proofs.YtpjgebbmbiohbaaDoor.Px Go.Proofs.YtpjgebbmbiohbaaDoor.En Go.Proofs.YtpjgebbmbiohbaaDoor.By

set_option maxRecDepth 20000 in
set_option maxHeartbeats 8000000 in
theorem steps_low (s n t m c d a : Int) (w : World) (hE : Env w) (hf : Fits s n a 0) (hg : Fits t m c d) (hN : Nx a 0 a 1 true) (X Y Z U V : Bool) (p q : Int) (hN2 : Nx c d p q Z) (h1 : Is (lss a 0 a 1) true) (h2 : Is (lss a 0 c d) X) (h3 : Is (lss c d a 1) Y) (h4 : Is (sam a 0 c d) U) (h5 : Is (sam a 1 p q) V) (hXY : Is (X && Y) false) (hZ : Is (Z && (U != V)) false) (hP : Nx (a - 1) 999999999 a 0 true) (ha0 : 0 < a) (ha1 : a ≤ 9223372036854775807) (hab : (a == 0) = false) :
    Calls Tryd.prog 10 #[.agg #[.int .i64 s, .int .i64 n], .agg #[.int .i64 t, .int .i64 m]] w fun e w' => e = .returned (.bool true) ∧ Below w.heap.size w w' := by
  go_enter Tryd.func10, Tryd.ntmps10

  have E0 := hE.on (((Below.refl _ w).alloc (by exact Nat.le_refl _) (.cells #[.int .i64 s, .int .i64 n] 23)).alloc (by simp) (.cells #[.int .i64 t, .int .i64 m] 23))
  go_wp2_with fail
  refine (known_any _ E0).mono ?_
  rintro e w1 ⟨rfl, hb1⟩
  have bo1 : Below w.heap.size w w1 := (((Below.refl _ w).alloc (Nat.le_refl _) _).alloc (by simp) _).trans (hb1.mono (by simp <;> omega))
  have c1_0 := keepc hb1 (b := w.heap.size) (o := 0) (v := .int .i64 s) (by go_simp)
  have c1_1 := keepc hb1 (b := w.heap.size) (o := 1) (v := .int .i64 n) (by go_simp)
  have l1 : w.heap.size < w1.heap.size := by
    have := hb1.size
    try simp at this
    omega
  have f1 := keepf hb1 (b := w.heap.size) (by simp <;> omega) (fun o => by go_simp)
  have c2_0 := keepc hb1 (b := w.heap.size + 1) (o := 0) (v := .int .i64 t) (by go_simp)
  have c2_1 := keepc hb1 (b := w.heap.size + 1) (o := 1) (v := .int .i64 m) (by go_simp)
  have l2 : w.heap.size + 1 < w1.heap.size := by
    have := hb1.size
    try simp at this
    omega
  have f2 := keepf hb1 (b := w.heap.size + 1) (by simp <;> omega) (fun o => by go_simp)
  have bl1 : Below w.heap.size w w1 := (Below.refl _ _).trans (bo1.mono (Nat.le_refl _))
  clear hb1 bo1 E0
  go_wp2_with fail
  refine (fit_as hf _).mono ?_
  rintro e w2 ⟨rfl, hb2⟩
  have bo2 := hb2
  have c1_0_2 := keepc bo2 c1_0
  have c1_1_2 := keepc bo2 c1_1
  have l1_2 := Nat.lt_of_lt_of_le l1 bo2.size
  have f1_2 := keepf bo2 l1 f1
  have c2_0_2 := keepc bo2 c2_0
  have c2_1_2 := keepc bo2 c2_1
  have l2_2 := Nat.lt_of_lt_of_le l2 bo2.size
  have f2_2 := keepf bo2 l2 f2
  have bl2 : Below w.heap.size w w2 := bl1.trans (bo2.mono bl1.size)
  clear c1_0 c1_1 l1 f1 c2_0 c2_1 l2 f2 bl1 hb2 bo2
  go_wp2_with fail
  refine (fit_as hg _).mono ?_
  rintro e w3 ⟨rfl, hb3⟩
  have c1_0_3 := keepc hb3 (b := w.heap.size) (o := 0) (v := .int .i64 a) (by go_simp)
  have c1_1_3 := keepc hb3 (b := w.heap.size) (o := 1) (v := .int .i64 0) (by go_simp)
  have l1_3 : w.heap.size < w3.heap.size := by
    have := hb3.size
    try simp at this
    omega
  have f1_3 := keepf hb3 (b := w.heap.size) (by simp <;> omega) (fun o => by go_simp)
  have c2_0_3 := keepc hb3 (b := w.heap.size + 1) (o := 0) (v := .int .i64 t) (by go_simp)
  have c2_1_3 := keepc hb3 (b := w.heap.size + 1) (o := 1) (v := .int .i64 m) (by go_simp)
  have l2_3 : w.heap.size + 1 < w3.heap.size := by
    have := hb3.size
    try simp at this
    omega
  have f2_3 := keepf hb3 (b := w.heap.size + 1) (by simp <;> omega) (fun o => by go_simp)
  have bl3 : Below w.heap.size w w3 := (((bl2).setCell (p := ⟨w.heap.size, 0, none⟩) (by simp) (.int .i64 a)).setCell (p := ⟨w.heap.size, 1, none⟩) (by simp) (.int .i64 0)).trans (hb3.mono (by have := bl2.size; simp <;> omega))
  clear c1_0_2 c1_1_2 l1_2 f1_2 c2_0_2 c2_1_2 l2_2 f2_2 bl2 hb3
  go_wp2_with fail
  refine (next_as hN _).mono ?_
  rintro e w4 ⟨rfl, hb4⟩
  have c1_0_4 := keepc hb4 (b := w.heap.size) (o := 0) (v := .int .i64 a) (by go_simp)
  have c1_1_4 := keepc hb4 (b := w.heap.size) (o := 1) (v := .int .i64 0) (by go_simp)
  have l1_4 : w.heap.size < w4.heap.size := by
    have := hb4.size
    try simp at this
    omega
  have f1_4 := keepf hb4 (b := w.heap.size) (by simp <;> omega) (fun o => by go_simp)
  have c2_0_4 := keepc hb4 (b := w.heap.size + 1) (o := 0) (v := .int .i64 c) (by go_simp)
  have c2_1_4 := keepc hb4 (b := w.heap.size + 1) (o := 1) (v := .int .i64 d) (by go_simp)
  have l2_4 : w.heap.size + 1 < w4.heap.size := by
    have := hb4.size
    try simp at this
    omega
  have f2_4 := keepf hb4 (b := w.heap.size + 1) (by simp <;> omega) (fun o => by go_simp)
  have bl4 : Below w.heap.size w w4 := (((bl3).setCell (p := ⟨w.heap.size + 1, 0, none⟩) (by simp) (.int .i64 c)).setCell (p := ⟨w.heap.size + 1, 1, none⟩) (by simp) (.int .i64 d)).trans (hb4.mono (by have := bl3.size; simp <;> omega))
  clear c1_0_3 c1_1_3 l1_3 f1_3 c2_0_3 c2_1_3 l2_3 f2_3 bl3 hb4
  go_upto_region 6 with fail
  go_cut [7] (fun s7 wx => s7 = .bool false ∧ wx = w4.alloc (.cells #[.int .i64 a, .int .i64 1] 23))
  case first =>
    by_cases hM : a = 9223372036854775807
    · obtain rfl : a = 9223372036854775807 := hM
      go_wp2_with fail
      go_meet
      exact ⟨rfl, rfl⟩
    · have hM2 : (a == 9223372036854775807) = false := by simpa using hM
      go_wp2_with fail
      go_meet
      exact ⟨rfl, rfl⟩
  obtain ⟨rfl, rfl⟩ := hcut
  go_wp2_with fail
  refine (less_as (v := true) h1 _).mono ?_
  rintro e w5 ⟨rfl, hb5⟩
  have bo5 : Below w4.heap.size w4 w5 := ((Below.refl _ w4).alloc (Nat.le_refl _) _).trans (hb5.mono (by simp <;> omega))
  have c1_0_5 := keepc bo5 c1_0_4
  have c1_1_5 := keepc bo5 c1_1_4
  have l1_5 := Nat.lt_of_lt_of_le l1_4 bo5.size
  have f1_5 := keepf bo5 l1_4 f1_4
  have c2_0_5 := keepc bo5 c2_0_4
  have c2_1_5 := keepc bo5 c2_1_4
  have l2_5 := Nat.lt_of_lt_of_le l2_4 bo5.size
  have f2_5 := keepf bo5 l2_4 f2_4
  have c3_0 := keepc hb5 (b := w4.heap.size) (o := 0) (v := .int .i64 a) (by go_simp)
  have c3_1 := keepc hb5 (b := w4.heap.size) (o := 1) (v := .int .i64 1) (by go_simp)
  have l3 : w4.heap.size < w5.heap.size := by
    have := hb5.size
    try simp at this
    omega
  have bl5 : Below w.heap.size w w5 := bl4.trans (bo5.mono bl4.size)
  clear c1_0_4 c1_1_4 l1_4 f1_4 c2_0_4 c2_1_4 l2_4 f2_4 bl4 hb5 bo5
  go_wp2_with fail
  refine (less_as (v := X) h2 _).mono ?_
  rintro e w6 ⟨rfl, hb6⟩
  have bo6 := hb6
  have c1_0_6 := keepc bo6 c1_0_5
  have c1_1_6 := keepc bo6 c1_1_5
  have l1_6 := Nat.lt_of_lt_of_le l1_5 bo6.size
  have f1_6 := keepf bo6 l1_5 f1_5
  have c2_0_6 := keepc bo6 c2_0_5
  have c2_1_6 := keepc bo6 c2_1_5
  have l2_6 := Nat.lt_of_lt_of_le l2_5 bo6.size
  have f2_6 := keepf bo6 l2_5 f2_5
  have c3_0_6 := keepc bo6 c3_0
  have c3_1_6 := keepc bo6 c3_1
  have l3_6 := Nat.lt_of_lt_of_le l3 bo6.size
  have bl6 : Below w.heap.size w w6 := bl5.trans (bo6.mono bl5.size)
  clear c1_0_5 c1_1_5 l1_5 f1_5 c2_0_5 c2_1_5 l2_5 f2_5 c3_0 c3_1 l3 bl5 hb6 bo6
  go_wp2_with fail
  refine (less_as (v := Y) h3 _).mono ?_
  rintro e w7 ⟨rfl, hb7⟩
  have bo7 := hb7
  have c1_0_7 := keepc bo7 c1_0_6
  have c1_1_7 := keepc bo7 c1_1_6
  have l1_7 := Nat.lt_of_lt_of_le l1_6 bo7.size
  have f1_7 := keepf bo7 l1_6 f1_6
  have c2_0_7 := keepc bo7 c2_0_6
  have c2_1_7 := keepc bo7 c2_1_6
  have l2_7 := Nat.lt_of_lt_of_le l2_6 bo7.size
  have f2_7 := keepf bo7 l2_6 f2_6
  have c3_0_7 := keepc bo7 c3_0_6
  have c3_1_7 := keepc bo7 c3_1_6
  have l3_7 := Nat.lt_of_lt_of_le l3_6 bo7.size
  have bl7 : Below w.heap.size w w7 := bl6.trans (bo7.mono bl6.size)
  clear c1_0_6 c1_1_6 l1_6 f1_6 c2_0_6 c2_1_6 l2_6 f2_6 c3_0_6 c3_1_6 l3_6 bl6 hb7 bo7
  go_wp2_with fail
  refine (next_as hN2 _).mono ?_
  rintro e w8 ⟨rfl, hb8⟩
  have bo8 := hb8
  have c1_0_8 := keepc bo8 c1_0_7
  have c1_1_8 := keepc bo8 c1_1_7
  have l1_8 := Nat.lt_of_lt_of_le l1_7 bo8.size
  have f1_8 := keepf bo8 l1_7 f1_7
  have c2_0_8 := keepc bo8 c2_0_7
  have c2_1_8 := keepc bo8 c2_1_7
  have l2_8 := Nat.lt_of_lt_of_le l2_7 bo8.size
  have f2_8 := keepf bo8 l2_7 f2_7
  have c3_0_8 := keepc bo8 c3_0_7
  have c3_1_8 := keepc bo8 c3_1_7
  have l3_8 := Nat.lt_of_lt_of_le l3_7 bo8.size
  have bl8 : Below w.heap.size w w8 := bl7.trans (bo8.mono bl7.size)
  clear c1_0_7 c1_1_7 l1_7 f1_7 c2_0_7 c2_1_7 l2_7 f2_7 c3_0_7 c3_1_7 l3_7 bl7 hb8 bo8
  go_wp2_with fail
  refine (sam_as (v := U) h4 _).mono ?_
  rintro e w9 ⟨rfl, hb9⟩
  have bo9 : Below w8.heap.size w8 w9 := ((Below.refl _ w8).alloc (Nat.le_refl _) _).trans (hb9.mono (by simp <;> omega))
  have c1_0_9 := keepc bo9 c1_0_8
  have c1_1_9 := keepc bo9 c1_1_8
  have l1_9 := Nat.lt_of_lt_of_le l1_8 bo9.size
  have f1_9 := keepf bo9 l1_8 f1_8
  have c2_0_9 := keepc bo9 c2_0_8
  have c2_1_9 := keepc bo9 c2_1_8
  have l2_9 := Nat.lt_of_lt_of_le l2_8 bo9.size
  have f2_9 := keepf bo9 l2_8 f2_8
  have c3_0_9 := keepc bo9 c3_0_8
  have c3_1_9 := keepc bo9 c3_1_8
  have l3_9 := Nat.lt_of_lt_of_le l3_8 bo9.size
  have c4_0 := keepc hb9 (b := w8.heap.size) (o := 0) (v := .int .i64 p) (by go_simp)
  have c4_1 := keepc hb9 (b := w8.heap.size) (o := 1) (v := .int .i64 q) (by go_simp)
  have l4 : w8.heap.size < w9.heap.size := by
    have := hb9.size
    try simp at this
    omega
  have bl9 : Below w.heap.size w w9 := bl8.trans (bo9.mono bl8.size)
  clear c1_0_8 c1_1_8 l1_8 f1_8 c2_0_8 c2_1_8 l2_8 f2_8 c3_0_8 c3_1_8 l3_8 bl8 hb9 bo9
  go_wp2_with fail
  refine (sam_as (v := V) h5 _).mono ?_
  rintro e w10 ⟨rfl, hb10⟩
  have bo10 := hb10
  have c1_0_10 := keepc bo10 c1_0_9
  have c1_1_10 := keepc bo10 c1_1_9
  have l1_10 := Nat.lt_of_lt_of_le l1_9 bo10.size
  have f1_10 := keepf bo10 l1_9 f1_9
  have c2_0_10 := keepc bo10 c2_0_9
  have c2_1_10 := keepc bo10 c2_1_9
  have l2_10 := Nat.lt_of_lt_of_le l2_9 bo10.size
  have f2_10 := keepf bo10 l2_9 f2_9
  have c3_0_10 := keepc bo10 c3_0_9
  have c3_1_10 := keepc bo10 c3_1_9
  have l3_10 := Nat.lt_of_lt_of_le l3_9 bo10.size
  have c4_0_10 := keepc bo10 c4_0
  have c4_1_10 := keepc bo10 c4_1
  have l4_10 := Nat.lt_of_lt_of_le l4 bo10.size
  have bl10 : Below w.heap.size w w10 := bl9.trans (bo10.mono bl9.size)
  clear c1_0_9 c1_1_9 l1_9 f1_9 c2_0_9 c2_1_9 l2_9 f2_9 c3_0_9 c3_1_9 l3_9 c4_0 c4_1 l4 bl9 hb10 bo10
  go_upto_region 16 with fail
  go_cut [77] (fun s77 wx => s77 = .bool false ∧ wx = w10)
  case first =>
    rcases xy hXY with rfl | ⟨rfl, rfl⟩
    all_goals rcases zuv hZ with rfl | ⟨rfl, rfl⟩
    all_goals go_wp2_with fail
    all_goals (go_meet; exact ⟨by simp, rfl⟩)
  obtain ⟨rfl, rfl⟩ := hcut
  go_wp2_with fail
  refine (next_as hP _).mono ?_
  rintro e w11 ⟨rfl, hb11⟩
  have bo11 : Below wc.heap.size wc w11 := ((Below.refl _ wc).alloc (Nat.le_refl _) _).trans (hb11.mono (by simp <;> omega))
  have c1_0_11 := keepc bo11 c1_0_10
  have c1_1_11 := keepc bo11 c1_1_10
  have l1_11 := Nat.lt_of_lt_of_le l1_10 bo11.size
  have f1_11 := keepf bo11 l1_10 f1_10
  have c2_0_11 := keepc bo11 c2_0_10
  have c2_1_11 := keepc bo11 c2_1_10
  have l2_11 := Nat.lt_of_lt_of_le l2_10 bo11.size
  have f2_11 := keepf bo11 l2_10 f2_10
  have c3_0_11 := keepc bo11 c3_0_10
  have c3_1_11 := keepc bo11 c3_1_10
  have l3_11 := Nat.lt_of_lt_of_le l3_10 bo11.size
  have c4_0_11 := keepc bo11 c4_0_10
  have c4_1_11 := keepc bo11 c4_1_10
  have l4_11 := Nat.lt_of_lt_of_le l4_10 bo11.size
  have c5_0 := keepc hb11 (b := wc.heap.size) (o := 0) (v := .int .i64 (a - 1)) (by go_simp)
  have c5_1 := keepc hb11 (b := wc.heap.size) (o := 1) (v := .int .i64 999999999) (by go_simp)
  have l5 : wc.heap.size < w11.heap.size := by
    have := hb11.size
    try simp at this
    omega
  have bl11 : Below w.heap.size w w11 := bl10.trans (bo11.mono bl10.size)
  clear c1_0_10 c1_1_10 l1_10 f1_10 c2_0_10 c2_1_10 l2_10 f2_10 c3_0_10 c3_1_10 l3_10 c4_0_10 c4_1_10 l4_10 bl10 hb11 bo11
  go_wp2_with fail
  refine (sam_k a 0 _).mono ?_
  rintro e w12 ⟨rfl, hb12⟩
  have bo12 : Below w11.heap.size w11 w12 := ((Below.refl _ w11).alloc (Nat.le_refl _) _).trans (hb12.mono (by simp <;> omega))
  have c1_0_12 := keepc bo12 c1_0_11
  have c1_1_12 := keepc bo12 c1_1_11
  have l1_12 := Nat.lt_of_lt_of_le l1_11 bo12.size
  have f1_12 := keepf bo12 l1_11 f1_11
  have c2_0_12 := keepc bo12 c2_0_11
  have c2_1_12 := keepc bo12 c2_1_11
  have l2_12 := Nat.lt_of_lt_of_le l2_11 bo12.size
  have f2_12 := keepf bo12 l2_11 f2_11
  have c3_0_12 := keepc bo12 c3_0_11
  have c3_1_12 := keepc bo12 c3_1_11
  have l3_12 := Nat.lt_of_lt_of_le l3_11 bo12.size
  have c4_0_12 := keepc bo12 c4_0_11
  have c4_1_12 := keepc bo12 c4_1_11
  have l4_12 := Nat.lt_of_lt_of_le l4_11 bo12.size
  have c5_0_12 := keepc bo12 c5_0
  have c5_1_12 := keepc bo12 c5_1
  have l5_12 := Nat.lt_of_lt_of_le l5 bo12.size
  have c6_0 := keepc hb12 (b := w11.heap.size) (o := 0) (v := .int .i64 a) (by go_simp)
  have c6_1 := keepc hb12 (b := w11.heap.size) (o := 1) (v := .int .i64 0) (by go_simp)
  have l6 : w11.heap.size < w12.heap.size := by
    have := hb12.size
    try simp at this
    omega
  have bl12 : Below w.heap.size w w12 := bl11.trans (bo12.mono bl11.size)
  clear c1_0_11 c1_1_11 l1_11 f1_11 c2_0_11 c2_1_11 l2_11 f2_11 c3_0_11 c3_1_11 l3_11 c4_0_11 c4_1_11 l4_11 c5_0 c5_1 l5 bl11 hb12 bo12
  go_wp2
  go_ret
  exact ⟨rfl, bl12⟩

end Go.Proofs.YtpjgebbmbiohbaaDoor.St
