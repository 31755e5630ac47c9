/- The walks of the first statements on stamps. -/
import Derived.Test.YtpjgebbmbiohbaaDoorKnown
namespace Go.Proofs.YtpjgebbmbiohbaaDoor.St
open Go.RowKit Go.Proofs.YtpjgebbmbiohbaaDoor.Wd Go.Proofs.YtpjgebbmbiohbaaDoor.Pl Go.Proofs.YtpjgebbmbiohbaaDoor.Px Go.Proofs.YtpjgebbmbiohbaaDoor.En Go.Proofs.YtpjgebbmbiohbaaDoor.By

set_option maxHeartbeats 2000000 in
theorem stampValids_law (s n : Int) (hs : s ≤ 9223372036854775807) (w : World) (hE : Env w) :
    Calls Tryd.prog 3 #[.agg #[.int .i64 s, .int .i64 n]] w fun e w' => e = .returned (.bool true) ∧ Below w.heap.size w w' := by
  go_enter Tryd.func3, Tryd.ntmps3

  have E0 := hE.on ((Below.refl _ w).alloc (by exact Nat.le_refl _) (.cells #[.int .i64 s, .int .i64 n] 23))
  go_wp2_with fail
  refine (known_any _ E0).mono ?_
  rintro e w1 ⟨rfl, hb1⟩
  have bo1 : Below w.heap.size w w1 := ((Below.refl _ w).alloc (Nat.le_refl _) _).trans (hb1.mono (by simp <;> omega))
  have c1_0 := keepc hb1 (b := w.heap.size) (o := 0) (v := .int .i64 s) (by go_simp)
  have c1_1 := keepc hb1 (b := w.heap.size) (o := 1) (v := .int .i64 n) (by go_simp)
  have l1 : w.heap.size < w1.heap.size := by
    have := hb1.size
    try simp at this
    omega
  have bl1 : Below w.heap.size w w1 := (Below.refl _ _).trans (bo1.mono (Nat.le_refl _))
  clear hb1 bo1 E0
  go_wp2_with fail
  refine (valid_any s n _ hs).mono ?_
  rintro e w2 ⟨rfl, hb2⟩
  have bo2 := hb2
  have c1_0_2 := keepc bo2 c1_0
  have c1_1_2 := keepc bo2 c1_1
  have l1_2 := Nat.lt_of_lt_of_le l1 bo2.size
  have bl2 : Below w.heap.size w w2 := bl1.trans (bo2.mono bl1.size)
  clear c1_0 c1_1 l1 bl1 hb2 bo2
  obtain ⟨v, hv⟩ : ∃ v : Bool, vld s n = v := ⟨_, rfl⟩
  have HV := Lib.hid hv
  rw [hv]
  clear hv
  go_wp2_with fail
  refine (rvalid_any s n _).mono ?_
  rintro e w3 ⟨rfl, hb3⟩
  have bo3 := hb3
  have c1_0_3 := keepc bo3 c1_0_2
  have c1_1_3 := keepc bo3 c1_1_2
  have l1_3 := Nat.lt_of_lt_of_le l1_2 bo3.size
  have bl3 : Below w.heap.size w w3 := bl2.trans (bo3.mono bl2.size)
  clear c1_0_2 c1_1_2 l1_2 bl2 hb3 bo3
  rw [HV.out]
  cases v
  all_goals go_wp2
  all_goals go_ret
  all_goals exact ⟨rfl, bl3⟩

set_option maxHeartbeats 2000000 in
theorem stampLess_law (s n t m : Int) (w : World) (hE : Env w) :
    Calls Tryd.prog 4 #[.agg #[.int .i64 s, .int .i64 n], .agg #[.int .i64 t, .int .i64 m]] w fun e w' => e = .returned (.bool true) ∧ Below w.heap.size w w' := by
  go_enter Tryd.func4, Tryd.ntmps4

  have E0 := hE.on (((Below.refl _ w).alloc (by exact Nat.le_refl _) (.cells #[.int .i64 s, .int .i64 n] 23)).alloc (by simp) (.cells #[.int .i64 t, .int .i64 m] 23))
  go_wp2_with fail
  refine (known_any _ E0).mono ?_
  rintro e w1 ⟨rfl, hb1⟩
  have bo1 : Below w.heap.size w w1 := (((Below.refl _ w).alloc (Nat.le_refl _) _).alloc (by simp) _).trans (hb1.mono (by simp <;> omega))
  have c1_0 := keepc hb1 (b := w.heap.size) (o := 0) (v := .int .i64 s) (by go_simp)
  have c1_1 := keepc hb1 (b := w.heap.size) (o := 1) (v := .int .i64 n) (by go_simp)
  have l1 : w.heap.size < w1.heap.size := by
    have := hb1.size
    try simp at this
    omega
  have c2_0 := keepc hb1 (b := w.heap.size + 1) (o := 0) (v := .int .i64 t) (by go_simp)
  have c2_1 := keepc hb1 (b := w.heap.size + 1) (o := 1) (v := .int .i64 m) (by go_simp)
  have l2 : w.heap.size + 1 < w1.heap.size := by
    have := hb1.size
    try simp at this
    omega
  have bl1 : Below w.heap.size w w1 := (Below.refl _ _).trans (bo1.mono (Nat.le_refl _))
  clear hb1 bo1 E0
  go_wp2_with fail
  refine (St.less_any s n t m _).mono ?_
  rintro e w2 ⟨rfl, hb2⟩
  have bo2 := hb2
  have c1_0_2 := keepc bo2 c1_0
  have c1_1_2 := keepc bo2 c1_1
  have l1_2 := Nat.lt_of_lt_of_le l1 bo2.size
  have c2_0_2 := keepc bo2 c2_0
  have c2_1_2 := keepc bo2 c2_1
  have l2_2 := Nat.lt_of_lt_of_le l2 bo2.size
  have bl2 : Below w.heap.size w w2 := bl1.trans (bo2.mono bl1.size)
  clear c1_0 c1_1 l1 c2_0 c2_1 l2 bl1 hb2 bo2
  obtain ⟨v, hv⟩ : ∃ v : Bool, lss s n t m = v := ⟨_, rfl⟩
  have HV := Lib.hid hv
  rw [hv]
  clear hv
  go_wp2_with fail
  refine (St.rless_any s n t m _).mono ?_
  rintro e w3 ⟨rfl, hb3⟩
  have bo3 := hb3
  have c1_0_3 := keepc bo3 c1_0_2
  have c1_1_3 := keepc bo3 c1_1_2
  have l1_3 := Nat.lt_of_lt_of_le l1_2 bo3.size
  have c2_0_3 := keepc bo3 c2_0_2
  have c2_1_3 := keepc bo3 c2_1_2
  have l2_3 := Nat.lt_of_lt_of_le l2_2 bo3.size
  have bl3 : Below w.heap.size w w3 := bl2.trans (bo3.mono bl2.size)
  clear c1_0_2 c1_1_2 l1_2 c2_0_2 c2_1_2 l2_2 bl2 hb3 bo3
  rw [HV.out]
  go_wp2_with fail
  refine (St.less_any t m s n _).mono ?_
  rintro e w4 ⟨rfl, hb4⟩
  have bo4 := hb4
  have c1_0_4 := keepc bo4 c1_0_3
  have c1_1_4 := keepc bo4 c1_1_3
  have l1_4 := Nat.lt_of_lt_of_le l1_3 bo4.size
  have c2_0_4 := keepc bo4 c2_0_3
  have c2_1_4 := keepc bo4 c2_1_3
  have l2_4 := Nat.lt_of_lt_of_le l2_3 bo4.size
  have bl4 : Below w.heap.size w w4 := bl3.trans (bo4.mono bl3.size)
  clear c1_0_3 c1_1_3 l1_3 c2_0_3 c2_1_3 l2_3 bl3 hb4 bo4
  obtain ⟨u, hu⟩ : ∃ u : Bool, lss t m s n = u := ⟨_, rfl⟩
  have HU := Lib.hid hu
  rw [hu]
  clear hu
  go_wp2_with fail
  refine (St.rless_any t m s n _).mono ?_
  rintro e w5 ⟨rfl, hb5⟩
  have bo5 := hb5
  have c1_0_5 := keepc bo5 c1_0_4
  have c1_1_5 := keepc bo5 c1_1_4
  have l1_5 := Nat.lt_of_lt_of_le l1_4 bo5.size
  have c2_0_5 := keepc bo5 c2_0_4
  have c2_1_5 := keepc bo5 c2_1_4
  have l2_5 := Nat.lt_of_lt_of_le l2_4 bo5.size
  have bl5 : Below w.heap.size w w5 := bl4.trans (bo5.mono bl4.size)
  clear c1_0_4 c1_1_4 l1_4 c2_0_4 c2_1_4 l2_4 bl4 hb5 bo5
  rw [HU.out]
  cases v
  all_goals cases u
  all_goals go_wp2
  all_goals go_ret
  all_goals exact ⟨rfl, bl5⟩

set_option maxHeartbeats 2000000 in
theorem nexts_bad (s n : Int) (w : World) (hE : Env w) (hs : s ≤ 9223372036854775807) (hv : vld s n = false) :
    Calls Tryd.prog 5 #[.agg #[.int .i64 s, .int .i64 n]] w fun e w' => e = .returned (.bool true) ∧ Below w.heap.size w w' := by
  go_enter Tryd.func5, Tryd.ntmps5

  have E0 := hE.on ((Below.refl _ w).alloc (by exact Nat.le_refl _) (.cells #[.int .i64 s, .int .i64 n] 23))
  go_wp2_with fail
  refine (known_any _ E0).mono ?_
  rintro e w1 ⟨rfl, hb1⟩
  have bo1 : Below w.heap.size w w1 := ((Below.refl _ w).alloc (Nat.le_refl _) _).trans (hb1.mono (by simp <;> omega))
  have c1_0 := keepc hb1 (b := w.heap.size) (o := 0) (v := .int .i64 s) (by go_simp)
  have c1_1 := keepc hb1 (b := w.heap.size) (o := 1) (v := .int .i64 n) (by go_simp)
  have l1 : w.heap.size < w1.heap.size := by
    have := hb1.size
    try simp at this
    omega
  have bl1 : Below w.heap.size w w1 := (Below.refl _ _).trans (bo1.mono (Nat.le_refl _))
  clear hb1 bo1 E0
  go_wp2_with fail
  refine (next_bad s n _ hs hv).mono ?_
  rintro e w2 ⟨rfl, hb2⟩
  have bo2 := hb2
  have c1_0_2 := keepc bo2 c1_0
  have c1_1_2 := keepc bo2 c1_1
  have l1_2 := Nat.lt_of_lt_of_le l1 bo2.size
  have bl2 : Below w.heap.size w w2 := bl1.trans (bo2.mono bl1.size)
  clear c1_0 c1_1 l1 bl1 hb2 bo2
  go_wp2_with fail
  refine (rnext_bad s n _ hv).mono ?_
  rintro e w3 ⟨rfl, hb3⟩
  have bo3 : Below w2.heap.size w2 w3 := ((Below.refl _ w2).alloc (Nat.le_refl _) _).trans (hb3.mono (by simp <;> omega))
  have c1_0_3 := keepc bo3 c1_0_2
  have c1_1_3 := keepc bo3 c1_1_2
  have l1_3 := Nat.lt_of_lt_of_le l1_2 bo3.size
  have c2_0 := keepc hb3 (b := w2.heap.size) (o := 0) (v := .int .i64 0) (by go_simp)
  have c2_1 := keepc hb3 (b := w2.heap.size) (o := 1) (v := .int .i64 0) (by go_simp)
  have l2 : w2.heap.size < w3.heap.size := by
    have := hb3.size
    try simp at this
    omega
  have bl3 : Below w.heap.size w w3 := bl2.trans (bo3.mono bl2.size)
  clear c1_0_2 c1_1_2 l1_2 bl2 hb3 bo3
  go_wp2_with fail
  refine (sam_k 0 0 _).mono ?_
  rintro e w4 ⟨rfl, hb4⟩
  have bo4 : Below w3.heap.size w3 w4 := ((Below.refl _ w3).alloc (Nat.le_refl _) _).trans (hb4.mono (by simp <;> omega))
  have c1_0_4 := keepc bo4 c1_0_3
  have c1_1_4 := keepc bo4 c1_1_3
  have l1_4 := Nat.lt_of_lt_of_le l1_3 bo4.size
  have c2_0_4 := keepc bo4 c2_0
  have c2_1_4 := keepc bo4 c2_1
  have l2_4 := Nat.lt_of_lt_of_le l2 bo4.size
  have c3_0 := keepc hb4 (b := w3.heap.size) (o := 0) (v := .int .i64 0) (by go_simp)
  have c3_1 := keepc hb4 (b := w3.heap.size) (o := 1) (v := .int .i64 0) (by go_simp)
  have l3 : w3.heap.size < w4.heap.size := by
    have := hb4.size
    try simp at this
    omega
  have bl4 : Below w.heap.size w w4 := bl3.trans (bo4.mono bl3.size)
  clear c1_0_3 c1_1_3 l1_3 c2_0 c2_1 l2 bl3 hb4 bo4
  go_wp2
  go_ret
  exact ⟨rfl, bl4⟩

set_option maxHeartbeats 2000000 in
theorem nexts_last  (w : World) (hE : Env w)  :
    Calls Tryd.prog 5 #[.agg #[.int .i64 9223372036854775807, .int .i64 999999999]] w fun e w' => e = .returned (.bool true) ∧ Below w.heap.size w w' := by
  go_enter Tryd.func5, Tryd.ntmps5

  have E0 := hE.on ((Below.refl _ w).alloc (by exact Nat.le_refl _) (.cells #[.int .i64 9223372036854775807, .int .i64 999999999] 23))
  go_wp2_with fail
  refine (known_any _ E0).mono ?_
  rintro e w1 ⟨rfl, hb1⟩
  have bo1 : Below w.heap.size w w1 := ((Below.refl _ w).alloc (Nat.le_refl _) _).trans (hb1.mono (by simp <;> omega))
  have c1_0 := keepc hb1 (b := w.heap.size) (o := 0) (v := .int .i64 9223372036854775807) (by go_simp)
  have c1_1 := keepc hb1 (b := w.heap.size) (o := 1) (v := .int .i64 999999999) (by go_simp)
  have l1 : w.heap.size < w1.heap.size := by
    have := hb1.size
    try simp at this
    omega
  have bl1 : Below w.heap.size w w1 := (Below.refl _ _).trans (bo1.mono (Nat.le_refl _))
  clear hb1 bo1 E0
  go_wp2_with fail
  refine (next_last _).mono ?_
  rintro e w2 ⟨rfl, hb2⟩
  have bo2 := hb2
  have c1_0_2 := keepc bo2 c1_0
  have c1_1_2 := keepc bo2 c1_1
  have l1_2 := Nat.lt_of_lt_of_le l1 bo2.size
  have bl2 : Below w.heap.size w w2 := bl1.trans (bo2.mono bl1.size)
  clear c1_0 c1_1 l1 bl1 hb2 bo2
  go_wp2_with fail
  refine (rnext_last _).mono ?_
  rintro e w3 ⟨rfl, hb3⟩
  have bo3 : Below w2.heap.size w2 w3 := ((Below.refl _ w2).alloc (Nat.le_refl _) _).trans (hb3.mono (by simp <;> omega))
  have c1_0_3 := keepc bo3 c1_0_2
  have c1_1_3 := keepc bo3 c1_1_2
  have l1_3 := Nat.lt_of_lt_of_le l1_2 bo3.size
  have c2_0 := keepc hb3 (b := w2.heap.size) (o := 0) (v := .int .i64 0) (by go_simp)
  have c2_1 := keepc hb3 (b := w2.heap.size) (o := 1) (v := .int .i64 0) (by go_simp)
  have l2 : w2.heap.size < w3.heap.size := by
    have := hb3.size
    try simp at this
    omega
  have bl3 : Below w.heap.size w w3 := bl2.trans (bo3.mono bl2.size)
  clear c1_0_2 c1_1_2 l1_2 bl2 hb3 bo3
  go_wp2_with fail
  refine (sam_k 0 0 _).mono ?_
  rintro e w4 ⟨rfl, hb4⟩
  have bo4 : Below w3.heap.size w3 w4 := ((Below.refl _ w3).alloc (Nat.le_refl _) _).trans (hb4.mono (by simp <;> omega))
  have c1_0_4 := keepc bo4 c1_0_3
  have c1_1_4 := keepc bo4 c1_1_3
  have l1_4 := Nat.lt_of_lt_of_le l1_3 bo4.size
  have c2_0_4 := keepc bo4 c2_0
  have c2_1_4 := keepc bo4 c2_1
  have l2_4 := Nat.lt_of_lt_of_le l2 bo4.size
  have c3_0 := keepc hb4 (b := w3.heap.size) (o := 0) (v := .int .i64 0) (by go_simp)
  have c3_1 := keepc hb4 (b := w3.heap.size) (o := 1) (v := .int .i64 0) (by go_simp)
  have l3 : w3.heap.size < w4.heap.size := by
    have := hb4.size
    try simp at this
    omega
  have bl4 : Below w.heap.size w w4 := bl3.trans (bo4.mono bl3.size)
  clear c1_0_3 c1_1_3 l1_3 c2_0 c2_1 l2 bl3 hb4 bo4
  go_wp2
  go_ret
  exact ⟨rfl, bl4⟩

set_option maxHeartbeats 2000000 in
theorem nexts_up (s : Int) (w : World) (hE : Env w) (h1 : 0 ≤ s) (h0 : s < 9223372036854775807) :
    Calls Tryd.prog 5 #[.agg #[.int .i64 s, .int .i64 999999999]] w fun e w' => e = .returned (.bool true) ∧ Below w.heap.size w w' := by
  go_enter Tryd.func5, Tryd.ntmps5

  have E0 := hE.on ((Below.refl _ w).alloc (by exact Nat.le_refl _) (.cells #[.int .i64 s, .int .i64 999999999] 23))
  go_wp2_with fail
  refine (known_any _ E0).mono ?_
  rintro e w1 ⟨rfl, hb1⟩
  have bo1 : Below w.heap.size w w1 := ((Below.refl _ w).alloc (Nat.le_refl _) _).trans (hb1.mono (by simp <;> omega))
  have c1_0 := keepc hb1 (b := w.heap.size) (o := 0) (v := .int .i64 s) (by go_simp)
  have c1_1 := keepc hb1 (b := w.heap.size) (o := 1) (v := .int .i64 999999999) (by go_simp)
  have l1 : w.heap.size < w1.heap.size := by
    have := hb1.size
    try simp at this
    omega
  have bl1 : Below w.heap.size w w1 := (Below.refl _ _).trans (bo1.mono (Nat.le_refl _))
  clear hb1 bo1 E0
  go_wp2_with fail
  refine (next_up s _ h1 h0).mono ?_
  rintro e w2 ⟨rfl, hb2⟩
  have bo2 := hb2
  have c1_0_2 := keepc bo2 c1_0
  have c1_1_2 := keepc bo2 c1_1
  have l1_2 := Nat.lt_of_lt_of_le l1 bo2.size
  have bl2 : Below w.heap.size w w2 := bl1.trans (bo2.mono bl1.size)
  clear c1_0 c1_1 l1 bl1 hb2 bo2
  go_wp2_with fail
  refine (rnext_up s _ h1 h0).mono ?_
  rintro e w3 ⟨rfl, hb3⟩
  have bo3 : Below w2.heap.size w2 w3 := ((Below.refl _ w2).alloc (Nat.le_refl _) _).trans (hb3.mono (by simp <;> omega))
  have c1_0_3 := keepc bo3 c1_0_2
  have c1_1_3 := keepc bo3 c1_1_2
  have l1_3 := Nat.lt_of_lt_of_le l1_2 bo3.size
  have c2_0 := keepc hb3 (b := w2.heap.size) (o := 0) (v := .int .i64 (s + 1)) (by go_simp)
  have c2_1 := keepc hb3 (b := w2.heap.size) (o := 1) (v := .int .i64 0) (by go_simp)
  have l2 : w2.heap.size < w3.heap.size := by
    have := hb3.size
    try simp at this
    omega
  have bl3 : Below w.heap.size w w3 := bl2.trans (bo3.mono bl2.size)
  clear c1_0_2 c1_1_2 l1_2 bl2 hb3 bo3
  go_wp2_with fail
  refine (sam_k ((s + 1)) 0 _).mono ?_
  rintro e w4 ⟨rfl, hb4⟩
  have bo4 : Below w3.heap.size w3 w4 := ((Below.refl _ w3).alloc (Nat.le_refl _) _).trans (hb4.mono (by simp <;> omega))
  have c1_0_4 := keepc bo4 c1_0_3
  have c1_1_4 := keepc bo4 c1_1_3
  have l1_4 := Nat.lt_of_lt_of_le l1_3 bo4.size
  have c2_0_4 := keepc bo4 c2_0
  have c2_1_4 := keepc bo4 c2_1
  have l2_4 := Nat.lt_of_lt_of_le l2 bo4.size
  have c3_0 := keepc hb4 (b := w3.heap.size) (o := 0) (v := .int .i64 (s + 1)) (by go_simp)
  have c3_1 := keepc hb4 (b := w3.heap.size) (o := 1) (v := .int .i64 0) (by go_simp)
  have l3 : w3.heap.size < w4.heap.size := by
    have := hb4.size
    try simp at this
    omega
  have bl4 : Below w.heap.size w w4 := bl3.trans (bo4.mono bl3.size)
  clear c1_0_3 c1_1_3 l1_3 c2_0 c2_1 l2 bl3 hb4 bo4
  go_wp2
  go_ret
  exact ⟨rfl, bl4⟩

set_option maxHeartbeats 2000000 in
theorem nexts_on (s n : Int) (w : World) (hE : Env w) (h1 : 0 ≤ s) (h0 : s ≤ 9223372036854775807) (h2 : 0 ≤ n) (h3 : n < 999999999) :
    Calls Tryd.prog 5 #[.agg #[.int .i64 s, .int .i64 n]] w fun e w' => e = .returned (.bool true) ∧ Below w.heap.size w w' := by
  go_enter Tryd.func5, Tryd.ntmps5

  have E0 := hE.on ((Below.refl _ w).alloc (by exact Nat.le_refl _) (.cells #[.int .i64 s, .int .i64 n] 23))
  go_wp2_with fail
  refine (known_any _ E0).mono ?_
  rintro e w1 ⟨rfl, hb1⟩
  have bo1 : Below w.heap.size w w1 := ((Below.refl _ w).alloc (Nat.le_refl _) _).trans (hb1.mono (by simp <;> omega))
  have c1_0 := keepc hb1 (b := w.heap.size) (o := 0) (v := .int .i64 s) (by go_simp)
  have c1_1 := keepc hb1 (b := w.heap.size) (o := 1) (v := .int .i64 n) (by go_simp)
  have l1 : w.heap.size < w1.heap.size := by
    have := hb1.size
    try simp at this
    omega
  have bl1 : Below w.heap.size w w1 := (Below.refl _ _).trans (bo1.mono (Nat.le_refl _))
  clear hb1 bo1 E0
  go_wp2_with fail
  refine (next_on s n _ h1 h0 h2 h3).mono ?_
  rintro e w2 ⟨rfl, hb2⟩
  have bo2 := hb2
  have c1_0_2 := keepc bo2 c1_0
  have c1_1_2 := keepc bo2 c1_1
  have l1_2 := Nat.lt_of_lt_of_le l1 bo2.size
  have bl2 : Below w.heap.size w w2 := bl1.trans (bo2.mono bl1.size)
  clear c1_0 c1_1 l1 bl1 hb2 bo2
  go_wp2_with fail
  refine (rnext_on s n _ h1 h0 h2 h3).mono ?_
  rintro e w3 ⟨rfl, hb3⟩
  have bo3 : Below w2.heap.size w2 w3 := ((Below.refl _ w2).alloc (Nat.le_refl _) _).trans (hb3.mono (by simp <;> omega))
  have c1_0_3 := keepc bo3 c1_0_2
  have c1_1_3 := keepc bo3 c1_1_2
  have l1_3 := Nat.lt_of_lt_of_le l1_2 bo3.size
  have c2_0 := keepc hb3 (b := w2.heap.size) (o := 0) (v := .int .i64 s) (by go_simp)
  have c2_1 := keepc hb3 (b := w2.heap.size) (o := 1) (v := .int .i64 (n + 1)) (by go_simp)
  have l2 : w2.heap.size < w3.heap.size := by
    have := hb3.size
    try simp at this
    omega
  have bl3 : Below w.heap.size w w3 := bl2.trans (bo3.mono bl2.size)
  clear c1_0_2 c1_1_2 l1_2 bl2 hb3 bo3
  go_wp2_with fail
  refine (sam_k s ((n + 1)) _).mono ?_
  rintro e w4 ⟨rfl, hb4⟩
  have bo4 : Below w3.heap.size w3 w4 := ((Below.refl _ w3).alloc (Nat.le_refl _) _).trans (hb4.mono (by simp <;> omega))
  have c1_0_4 := keepc bo4 c1_0_3
  have c1_1_4 := keepc bo4 c1_1_3
  have l1_4 := Nat.lt_of_lt_of_le l1_3 bo4.size
  have c2_0_4 := keepc bo4 c2_0
  have c2_1_4 := keepc bo4 c2_1
  have l2_4 := Nat.lt_of_lt_of_le l2 bo4.size
  have c3_0 := keepc hb4 (b := w3.heap.size) (o := 0) (v := .int .i64 s) (by go_simp)
  have c3_1 := keepc hb4 (b := w3.heap.size) (o := 1) (v := .int .i64 (n + 1)) (by go_simp)
  have l3 : w3.heap.size < w4.heap.size := by
    have := hb4.size
    try simp at this
    omega
  have bl4 : Below w.heap.size w w4 := bl3.trans (bo4.mono bl3.size)
  clear c1_0_3 c1_1_3 l1_3 c2_0 c2_1 l2 bl3 hb4 bo4
  go_wp2
  go_ret
  exact ⟨rfl, bl4⟩

theorem stampNexts_law (s n : Int) (hs : s ≤ 9223372036854775807) (w : World) (hE : Env w) :
    Calls Tryd.prog 5 #[.agg #[.int .i64 s, .int .i64 n]] w fun e w' => e = .returned (.bool true) ∧ Below w.heap.size w w' := by
  cases hv : vld s n with
  | false => exact nexts_bad s n w hE hs hv
  | true =>
    rw [vld_iff] at hv
    by_cases hn : n = 999999999
    · subst hn
      by_cases hl : s = 9223372036854775807
      · subst hl; exact nexts_last w hE
      · exact nexts_up s w hE (by omega) (by omega)
    · exact nexts_on s n w hE (by omega) (by omega) (by omega) (by omega)

end Go.Proofs.YtpjgebbmbiohbaaDoor.St
