/- The walks of statements on prefixes. -/
import Derived.Test.YtnodiejfhkjliaaDoorPLawsC
import Derived.Test.YtnodiejfhkjliaaDoorPOrd
namespace Go.Proofs.YtnodiejfhkjliaaDoor.Pf
open Go.RowKit Go.Proofs.YtnodiejfhkjliaaDoor.Wd Go.Proofs.YtnodiejfhkjliaaDoor.Px Go.Proofs.YtnodiejfhkjliaaDoor.By Go.Proofs.YtnodiejfhkjliaaDoor.En Go.Proofs.YtnodiejfhkjliaaDoor.Pl

theorem shows_take {α : Type} {f : α → Value} {w : World} {B : Nat} {A : Option Addr} {l : List α} (n : Nat) (h : Shows f w B A l) : Shows f w B A (l.take n) := fun hl => by
  rw [List.length_take] at hl
  obtain ⟨b, o, h1, h2, h3⟩ := h (by omega)
  refine ⟨b, o, h1, h2, fun i x hx => h3 i x ?_⟩
  rw [List.getElem?_take] at hx
  split at hx
  · exact hx
  · cases hx
theorem put_as {f : Int} {hi lo : Nat} {b : Int} {X : List UInt8} (h : Hid (pB f hi lo b = X)) (w : World) (hh : hi < 18446744073709551616) (hl : lo < 18446744073709551616) :
    Calls Tryd.prog 22 #[.agg #[.int .i64 f, .int .u64 hi, .int .u64 lo, .int .i64 b]] w fun e w' => ∃ A c, e = .returned (.slice A X.length c) ∧ Shows cel w' w'.heap.size A X ∧ X.length ≤ c ∧ Below w.heap.size w w' := by
  refine Calls.mono (P := Tryd.prog) (f := 22) (put_any f hi lo b w hh hl) ?_
  rintro e w' ⟨v, rfl, hown, hb⟩
  rw [h.out] at hown
  obtain ⟨A, c, rfl⟩ := own_slice hown
  exact ⟨A, c, rfl, Shows.of_own (base := w.heap.size) (e := 5) hown, (own_cap hown).1, hb⟩
theorem put_nil {f : Int} {hi lo : Nat} {b : Int} (h : Hid (vP f hi lo b = false)) (w : World) (hh : hi < 18446744073709551616) (hl : lo < 18446744073709551616) :
    Calls Tryd.prog 22 #[.agg #[.int .i64 f, .int .u64 hi, .int .u64 lo, .int .i64 b]] w fun e w' => (∃ A c, e = .returned (.slice A 0 c)) ∧ Below w.heap.size w w' := by
  refine (put_as (Lib.hid (pB_no h.out)) w hh hl).mono ?_
  rintro e w' ⟨A, c, rfl, -, -, hb⟩
  exact ⟨⟨A, c, rfl⟩, hb⟩
theorem less_as {X Y : List UInt8} {v : Bool} (h : Hid (lt8 X Y = v)) (A B : Option Addr) (c d : Nat) (w : World) (hl : X.length ≤ 18) (ha : Shows cel w w.heap.size A X) (hb : Shows cel w w.heap.size B Y) :
    Calls Tryd.prog 38 #[.slice A X.length c, .slice B Y.length d] w fun e w' => e = .returned (.bool v) ∧ Below w.heap.size w w' := by
  have := By.less_any X Y A B c d w (by omega) ha hb
  rwa [h.out] at this
theorem same_take {X Y : List UInt8} {n : Nat} {v : Bool} (h : Hid (decide (X.take n = Y.take n) = v)) (A B : Option Addr) (c d : Nat) (w : World) (hx : n ≤ X.length) (hy : n ≤ Y.length) (hl : X.length ≤ 18) (ha : Shows cel w w.heap.size A X) (hb : Shows cel w w.heap.size B Y) :
    Calls Tryd.prog 24 #[.slice A n c, .slice B n d] w fun e w' => e = .returned (.bool v) ∧ Below w.heap.size w w' := by
  have := By.same_any (X.take n) (Y.take n) A B c d w (by rw [List.length_take]; omega) (shows_take n ha) (shows_take n hb)
  rw [h.out, List.length_take, List.length_take, Nat.min_eq_left hx, Nat.min_eq_left hy] at this
  exact this

set_option maxRecDepth 20000 in
set_option maxHeartbeats 4000000 in
theorem order_no1 (f : Int) (hi lo : Nat) (b : Int) (hh : hi < 18446744073709551616) (hl : lo < 18446744073709551616) (f2 : Int) (hi2 lo2 : Nat) (b2 : Int) (hh2 : hi2 < 18446744073709551616) (hl2 : lo2 < 18446744073709551616) (w : World) (hE : Env w) (HV : Hid (vP f hi lo b = false)) (Y : List UInt8) (HY : Hid (pB f2 hi2 lo2 b2 = Y)) :
    Calls Tryd.prog 10 #[.agg #[.int .i64 f, .int .u64 hi, .int .u64 lo, .int .i64 b], .agg #[.int .i64 f2, .int .u64 hi2, .int .u64 lo2, .int .i64 b2]] w fun e w' => e = .returned (.bool true) ∧ Below w.heap.size w w' := by
  go_enter Tryd.func10, Tryd.ntmps10
  have E0 := hE.on (((Below.refl _ w).alloc (by exact Nat.le_refl _) (.cells #[.int .i64 f, .int .u64 hi, .int .u64 lo, .int .i64 b] 26)).alloc (by simp) (.cells #[.int .i64 f2, .int .u64 hi2, .int .u64 lo2, .int .i64 b2] 26))
  go_wp2_with fail
  refine (first_any _ E0).mono ?_
  rintro e w1 ⟨rfl, hb1⟩
  have bo1 : Below w.heap.size w w1 := (((Below.refl _ w).alloc (Nat.le_refl _) _).alloc (by simp) _).trans (hb1.mono (by simp <;> omega))
  have c1_0 := keepc hb1 (b := w.heap.size) (o := 0) (v := .int .i64 f) (by go_simp)
  have c1_1 := keepc hb1 (b := w.heap.size) (o := 1) (v := .int .u64 hi) (by go_simp)
  have c1_2 := keepc hb1 (b := w.heap.size) (o := 2) (v := .int .u64 lo) (by go_simp)
  have c1_3 := keepc hb1 (b := w.heap.size) (o := 3) (v := .int .i64 b) (by go_simp)
  have l1 : w.heap.size < w1.heap.size := by
    have := hb1.size
    try simp at this
    omega
  have c2_0 := keepc hb1 (b := w.heap.size + 1) (o := 0) (v := .int .i64 f2) (by go_simp)
  have c2_1 := keepc hb1 (b := w.heap.size + 1) (o := 1) (v := .int .u64 hi2) (by go_simp)
  have c2_2 := keepc hb1 (b := w.heap.size + 1) (o := 2) (v := .int .u64 lo2) (by go_simp)
  have c2_3 := keepc hb1 (b := w.heap.size + 1) (o := 3) (v := .int .i64 b2) (by go_simp)
  have l2 : w.heap.size + 1 < w1.heap.size := by
    have := hb1.size
    try simp at this
    omega
  have bl1 : Below w.heap.size w w1 := (Below.refl _ _).trans (bo1.mono (Nat.le_refl _))
  clear hb1 bo1 E0
  go_wp2_with fail
  refine (put_nil HV _ hh hl).mono ?_
  rintro e w2 ⟨⟨A1, k1, rfl⟩, hb2⟩
  have bo2 := hb2
  have c1_0_2 := keepc bo2 c1_0
  have c1_1_2 := keepc bo2 c1_1
  have c1_2_2 := keepc bo2 c1_2
  have c1_3_2 := keepc bo2 c1_3
  have l1_2 := Nat.lt_of_lt_of_le l1 bo2.size
  have c2_0_2 := keepc bo2 c2_0
  have c2_1_2 := keepc bo2 c2_1
  have c2_2_2 := keepc bo2 c2_2
  have c2_3_2 := keepc bo2 c2_3
  have l2_2 := Nat.lt_of_lt_of_le l2 bo2.size
  have bl2 : Below w.heap.size w w2 := bl1.trans (bo2.mono bl1.size)
  clear c1_0 c1_1 c1_2 c1_3 l1 c2_0 c2_1 c2_2 c2_3 l2 bl1 hb2 bo2
  go_wp2_with fail
  refine (put_as HY _ hh2 hl2).mono ?_
  rintro e w3 ⟨A2, k2, rfl, -, -, hb3⟩
  have bo3 := hb3
  have c1_0_3 := keepc bo3 c1_0_2
  have c1_1_3 := keepc bo3 c1_1_2
  have c1_2_3 := keepc bo3 c1_2_2
  have c1_3_3 := keepc bo3 c1_3_2
  have l1_3 := Nat.lt_of_lt_of_le l1_2 bo3.size
  have c2_0_3 := keepc bo3 c2_0_2
  have c2_1_3 := keepc bo3 c2_1_2
  have c2_2_3 := keepc bo3 c2_2_2
  have c2_3_3 := keepc bo3 c2_3_2
  have l2_3 := Nat.lt_of_lt_of_le l2_2 bo3.size
  have bl3 : Below w.heap.size w w3 := bl2.trans (bo3.mono bl2.size)
  clear c1_0_2 c1_1_2 c1_2_2 c1_3_2 l1_2 c2_0_2 c2_1_2 c2_2_2 c2_3_2 l2_2 bl2 hb3 bo3
  go_wp2
  go_ret
  exact ⟨rfl, bl3⟩

set_option maxRecDepth 20000 in
set_option maxHeartbeats 4000000 in
theorem order_no2 (f : Int) (hi lo : Nat) (b : Int) (hh : hi < 18446744073709551616) (hl : lo < 18446744073709551616) (f2 : Int) (hi2 lo2 : Nat) (b2 : Int) (hh2 : hi2 < 18446744073709551616) (hl2 : lo2 < 18446744073709551616) (w : World) (hE : Env w) (X : List UInt8) (HX : Hid (pB f hi lo b = X)) (h0 : 0 < X.length) (HV : Hid (vP f2 hi2 lo2 b2 = false)) :
    Calls Tryd.prog 10 #[.agg #[.int .i64 f, .int .u64 hi, .int .u64 lo, .int .i64 b], .agg #[.int .i64 f2, .int .u64 hi2, .int .u64 lo2, .int .i64 b2]] w fun e w' => e = .returned (.bool true) ∧ Below w.heap.size w w' := by
  have e1 : ((X.length : Int) == 0) = false := by rw [beq_eq_false_iff_ne]; omega
  go_enter Tryd.func10, Tryd.ntmps10
  have E0 := hE.on (((Below.refl _ w).alloc (by exact Nat.le_refl _) (.cells #[.int .i64 f, .int .u64 hi, .int .u64 lo, .int .i64 b] 26)).alloc (by simp) (.cells #[.int .i64 f2, .int .u64 hi2, .int .u64 lo2, .int .i64 b2] 26))
  go_wp2_with fail
  refine (first_any _ E0).mono ?_
  rintro e w1 ⟨rfl, hb1⟩
  have bo1 : Below w.heap.size w w1 := (((Below.refl _ w).alloc (Nat.le_refl _) _).alloc (by simp) _).trans (hb1.mono (by simp <;> omega))
  have c1_0 := keepc hb1 (b := w.heap.size) (o := 0) (v := .int .i64 f) (by go_simp)
  have c1_1 := keepc hb1 (b := w.heap.size) (o := 1) (v := .int .u64 hi) (by go_simp)
  have c1_2 := keepc hb1 (b := w.heap.size) (o := 2) (v := .int .u64 lo) (by go_simp)
  have c1_3 := keepc hb1 (b := w.heap.size) (o := 3) (v := .int .i64 b) (by go_simp)
  have l1 : w.heap.size < w1.heap.size := by
    have := hb1.size
    try simp at this
    omega
  have c2_0 := keepc hb1 (b := w.heap.size + 1) (o := 0) (v := .int .i64 f2) (by go_simp)
  have c2_1 := keepc hb1 (b := w.heap.size + 1) (o := 1) (v := .int .u64 hi2) (by go_simp)
  have c2_2 := keepc hb1 (b := w.heap.size + 1) (o := 2) (v := .int .u64 lo2) (by go_simp)
  have c2_3 := keepc hb1 (b := w.heap.size + 1) (o := 3) (v := .int .i64 b2) (by go_simp)
  have l2 : w.heap.size + 1 < w1.heap.size := by
    have := hb1.size
    try simp at this
    omega
  have bl1 : Below w.heap.size w w1 := (Below.refl _ _).trans (bo1.mono (Nat.le_refl _))
  clear hb1 bo1 E0
  go_wp2_with fail
  refine (put_as HX _ hh hl).mono ?_
  rintro e w2 ⟨A1, k1, rfl, -, -, hb2⟩
  have bo2 := hb2
  have c1_0_2 := keepc bo2 c1_0
  have c1_1_2 := keepc bo2 c1_1
  have c1_2_2 := keepc bo2 c1_2
  have c1_3_2 := keepc bo2 c1_3
  have l1_2 := Nat.lt_of_lt_of_le l1 bo2.size
  have c2_0_2 := keepc bo2 c2_0
  have c2_1_2 := keepc bo2 c2_1
  have c2_2_2 := keepc bo2 c2_2
  have c2_3_2 := keepc bo2 c2_3
  have l2_2 := Nat.lt_of_lt_of_le l2 bo2.size
  have bl2 : Below w.heap.size w w2 := bl1.trans (bo2.mono bl1.size)
  clear c1_0 c1_1 c1_2 c1_3 l1 c2_0 c2_1 c2_2 c2_3 l2 bl1 hb2 bo2
  go_wp2_with fail
  refine (put_nil HV _ hh2 hl2).mono ?_
  rintro e w3 ⟨⟨A2, k2, rfl⟩, hb3⟩
  have bo3 := hb3
  have c1_0_3 := keepc bo3 c1_0_2
  have c1_1_3 := keepc bo3 c1_1_2
  have c1_2_3 := keepc bo3 c1_2_2
  have c1_3_3 := keepc bo3 c1_3_2
  have l1_3 := Nat.lt_of_lt_of_le l1_2 bo3.size
  have c2_0_3 := keepc bo3 c2_0_2
  have c2_1_3 := keepc bo3 c2_1_2
  have c2_2_3 := keepc bo3 c2_2_2
  have c2_3_3 := keepc bo3 c2_3_2
  have l2_3 := Nat.lt_of_lt_of_le l2_2 bo3.size
  have bl3 : Below w.heap.size w w3 := bl2.trans (bo3.mono bl2.size)
  clear c1_0_2 c1_1_2 c1_2_2 c1_3_2 l1_2 c2_0_2 c2_1_2 c2_2_2 c2_3_2 l2_2 bl2 hb3 bo3
  go_wp2
  go_ret
  exact ⟨rfl, bl3⟩

set_option maxRecDepth 20000 in
set_option maxHeartbeats 4000000 in
theorem order_yes (f : Int) (hi lo : Nat) (b : Int) (hh : hi < 18446744073709551616) (hl : lo < 18446744073709551616) (f2 : Int) (hi2 lo2 : Nat) (b2 : Int) (hh2 : hi2 < 18446744073709551616) (hl2 : lo2 < 18446744073709551616) (w : World) (hE : Env w) (X : List UInt8) (HX : Hid (pB f hi lo b = X)) (h0 : 0 < X.length) (h9 : X.length ≤ 18) (Y : List UInt8) (HY : Hid (pB f2 hi2 lo2 b2 = Y)) (k0 : 0 < Y.length) (k9 : Y.length ≤ 18) (c : Int) (hc1 : -1 ≤ c) (hc2 : c ≤ 1) (HC : Hid (cmP f hi lo b f2 hi2 lo2 b2 = c)) (HD : Hid (cmP f2 hi2 lo2 b2 f hi lo b = -c)) (HL : Hid (lt8 X Y = decide (c < 0))) (HG : Hid (lt8 Y X = decide (0 < c))) (n : Nat) (hn : min X.length Y.length = n) (HB : Hid (decide (X.take n = Y.take n) = decide (c = 0))) :
    Calls Tryd.prog 10 #[.agg #[.int .i64 f, .int .u64 hi, .int .u64 lo, .int .i64 b], .agg #[.int .i64 f2, .int .u64 hi2, .int .u64 lo2, .int .i64 b2]] w fun e w' => e = .returned (.bool true) ∧ Below w.heap.size w w' := by
  have e1 : ((X.length : Int) == 0) = false := by rw [beq_eq_false_iff_ne]; omega
  have e2 : ((Y.length : Int) == 0) = false := by rw [beq_eq_false_iff_ne]; omega
  have hnx : n ≤ X.length := by omega
  have hny : n ≤ Y.length := by omega
  have hmin : min (X.length : Int) (Y.length : Int) = (n : Int) := by omega
  have HMIN := Lib.hid hmin
  clear hmin hn
  go_enter Tryd.func10, Tryd.ntmps10
  have E0 := hE.on (((Below.refl _ w).alloc (by exact Nat.le_refl _) (.cells #[.int .i64 f, .int .u64 hi, .int .u64 lo, .int .i64 b] 26)).alloc (by simp) (.cells #[.int .i64 f2, .int .u64 hi2, .int .u64 lo2, .int .i64 b2] 26))
  go_wp2_with fail
  refine (first_any _ E0).mono ?_
  rintro e w1 ⟨rfl, hb1⟩
  have bo1 : Below w.heap.size w w1 := (((Below.refl _ w).alloc (Nat.le_refl _) _).alloc (by simp) _).trans (hb1.mono (by simp <;> omega))
  have c1_0 := keepc hb1 (b := w.heap.size) (o := 0) (v := .int .i64 f) (by go_simp)
  have c1_1 := keepc hb1 (b := w.heap.size) (o := 1) (v := .int .u64 hi) (by go_simp)
  have c1_2 := keepc hb1 (b := w.heap.size) (o := 2) (v := .int .u64 lo) (by go_simp)
  have c1_3 := keepc hb1 (b := w.heap.size) (o := 3) (v := .int .i64 b) (by go_simp)
  have l1 : w.heap.size < w1.heap.size := by
    have := hb1.size
    try simp at this
    omega
  have c2_0 := keepc hb1 (b := w.heap.size + 1) (o := 0) (v := .int .i64 f2) (by go_simp)
  have c2_1 := keepc hb1 (b := w.heap.size + 1) (o := 1) (v := .int .u64 hi2) (by go_simp)
  have c2_2 := keepc hb1 (b := w.heap.size + 1) (o := 2) (v := .int .u64 lo2) (by go_simp)
  have c2_3 := keepc hb1 (b := w.heap.size + 1) (o := 3) (v := .int .i64 b2) (by go_simp)
  have l2 : w.heap.size + 1 < w1.heap.size := by
    have := hb1.size
    try simp at this
    omega
  have bl1 : Below w.heap.size w w1 := (Below.refl _ _).trans (bo1.mono (Nat.le_refl _))
  clear hb1 bo1 E0
  go_wp2_with fail
  refine (put_as HX _ hh hl).mono ?_
  rintro e w2 ⟨A1, m1, rfl, s1, u1, hb2⟩
  have bo2 := hb2
  have c1_0_2 := keepc bo2 c1_0
  have c1_1_2 := keepc bo2 c1_1
  have c1_2_2 := keepc bo2 c1_2
  have c1_3_2 := keepc bo2 c1_3
  have l1_2 := Nat.lt_of_lt_of_le l1 bo2.size
  have c2_0_2 := keepc bo2 c2_0
  have c2_1_2 := keepc bo2 c2_1
  have c2_2_2 := keepc bo2 c2_2
  have c2_3_2 := keepc bo2 c2_3
  have l2_2 := Nat.lt_of_lt_of_le l2 bo2.size
  have bl2 : Below w.heap.size w w2 := bl1.trans (bo2.mono bl1.size)
  clear c1_0 c1_1 c1_2 c1_3 l1 c2_0 c2_1 c2_2 c2_3 l2 bl1 hb2 bo2
  go_wp2_with fail
  refine (put_as HY _ hh2 hl2).mono ?_
  rintro e w3 ⟨A2, m2, rfl, s2, u2, hb3⟩
  have bo3 := hb3
  have c1_0_3 := keepc bo3 c1_0_2
  have c1_1_3 := keepc bo3 c1_1_2
  have c1_2_3 := keepc bo3 c1_2_2
  have c1_3_3 := keepc bo3 c1_3_2
  have l1_3 := Nat.lt_of_lt_of_le l1_2 bo3.size
  have c2_0_3 := keepc bo3 c2_0_2
  have c2_1_3 := keepc bo3 c2_1_2
  have c2_2_3 := keepc bo3 c2_2_2
  have c2_3_3 := keepc bo3 c2_3_2
  have l2_3 := Nat.lt_of_lt_of_le l2_2 bo3.size
  have s1_3 := s1.on bo3
  have bl3 : Below w.heap.size w w3 := bl2.trans (bo3.mono bl2.size)
  clear c1_0_2 c1_1_2 c1_2_2 c1_3_2 l1_2 c2_0_2 c2_1_2 c2_2_2 c2_3_2 l2_2 s1 bl2 hb3 bo3
  go_wp2_with fail
  refine (as_int HC (compare_any _ _ _ _ _ _ _ _ _)).mono ?_
  rintro e w4 ⟨rfl, hb4⟩
  have bo4 := hb4
  have c1_0_4 := keepc bo4 c1_0_3
  have c1_1_4 := keepc bo4 c1_1_3
  have c1_2_4 := keepc bo4 c1_2_3
  have c1_3_4 := keepc bo4 c1_3_3
  have l1_4 := Nat.lt_of_lt_of_le l1_3 bo4.size
  have c2_0_4 := keepc bo4 c2_0_3
  have c2_1_4 := keepc bo4 c2_1_3
  have c2_2_4 := keepc bo4 c2_2_3
  have c2_3_4 := keepc bo4 c2_3_3
  have l2_4 := Nat.lt_of_lt_of_le l2_3 bo4.size
  have s1_4 := s1_3.on bo4
  have s2_4 := s2.on bo4
  have bl4 : Below w.heap.size w w4 := bl3.trans (bo4.mono bl3.size)
  clear c1_0_3 c1_1_3 c1_2_3 c1_3_3 l1_3 c2_0_3 c2_1_3 c2_2_3 c2_3_3 l2_3 s1_3 s2 bl3 hb4 bo4
  go_wp2_with fail
  refine (as_int HD (compare_any _ _ _ _ _ _ _ _ _)).mono ?_
  rintro e w5 ⟨rfl, hb5⟩
  have bo5 := hb5
  have c1_0_5 := keepc bo5 c1_0_4
  have c1_1_5 := keepc bo5 c1_1_4
  have c1_2_5 := keepc bo5 c1_2_4
  have c1_3_5 := keepc bo5 c1_3_4
  have l1_5 := Nat.lt_of_lt_of_le l1_4 bo5.size
  have c2_0_5 := keepc bo5 c2_0_4
  have c2_1_5 := keepc bo5 c2_1_4
  have c2_2_5 := keepc bo5 c2_2_4
  have c2_3_5 := keepc bo5 c2_3_4
  have l2_5 := Nat.lt_of_lt_of_le l2_4 bo5.size
  have s1_5 := s1_4.on bo5
  have s2_5 := s2_4.on bo5
  have bl5 : Below w.heap.size w w5 := bl4.trans (bo5.mono bl4.size)
  clear c1_0_4 c1_1_4 c1_2_4 c1_3_4 l1_4 c2_0_4 c2_1_4 c2_2_4 c2_3_4 l2_4 s1_4 s2_4 bl4 hb5 bo5
  go_wp2_with fail
  refine (less_as HL _ _ _ _ _ h9 s1_5 s2_5).mono ?_
  rintro e w6 ⟨rfl, hb6⟩
  have bo6 := hb6
  have c1_0_6 := keepc bo6 c1_0_5
  have c1_1_6 := keepc bo6 c1_1_5
  have c1_2_6 := keepc bo6 c1_2_5
  have c1_3_6 := keepc bo6 c1_3_5
  have l1_6 := Nat.lt_of_lt_of_le l1_5 bo6.size
  have c2_0_6 := keepc bo6 c2_0_5
  have c2_1_6 := keepc bo6 c2_1_5
  have c2_2_6 := keepc bo6 c2_2_5
  have c2_3_6 := keepc bo6 c2_3_5
  have l2_6 := Nat.lt_of_lt_of_le l2_5 bo6.size
  have s1_6 := s1_5.on bo6
  have s2_6 := s2_5.on bo6
  have bl6 : Below w.heap.size w w6 := bl5.trans (bo6.mono bl5.size)
  clear c1_0_5 c1_1_5 c1_2_5 c1_3_5 l1_5 c2_0_5 c2_1_5 c2_2_5 c2_3_5 l2_5 s1_5 s2_5 bl5 hb6 bo6
  go_wp2_with fail
  refine (less_as HG _ _ _ _ _ k9 s2_6 s1_6).mono ?_
  rintro e w7 ⟨rfl, hb7⟩
  have bo7 := hb7
  have c1_0_7 := keepc bo7 c1_0_6
  have c1_1_7 := keepc bo7 c1_1_6
  have c1_2_7 := keepc bo7 c1_2_6
  have c1_3_7 := keepc bo7 c1_3_6
  have l1_7 := Nat.lt_of_lt_of_le l1_6 bo7.size
  have c2_0_7 := keepc bo7 c2_0_6
  have c2_1_7 := keepc bo7 c2_1_6
  have c2_2_7 := keepc bo7 c2_2_6
  have c2_3_7 := keepc bo7 c2_3_6
  have l2_7 := Nat.lt_of_lt_of_le l2_6 bo7.size
  have s1_7 := s1_6.on bo7
  have s2_7 := s2_6.on bo7
  have bl7 : Below w.heap.size w w7 := bl6.trans (bo7.mono bl6.size)
  clear c1_0_6 c1_1_6 c1_2_6 c1_3_6 l1_6 c2_0_6 c2_1_6 c2_2_6 c2_3_6 l2_6 s1_6 s2_6 bl6 hb7 bo7
  go_upto_region 11 with fail
  rw [HMIN.out]
  have hn1 : n ≤ m1 := Nat.le_trans hnx u1
  have hn2 : n ≤ m2 := Nat.le_trans hny u2
  have t1 := s1_7.on (Below.refl _ _).drew
  have t2 := s2_7.on (Below.refl _ _).drew
  have blz := bl7.drew
  refine wp_region_still_tail 6 (by kernel_rfl) (by kernel_rfl) ?_
  simp only [List.take_succ_cons, List.take_zero, List.drop_succ_cons, List.drop_zero]
  change wpStill _ _ w7.drew (fun a' => wpList _ _ _ _ a' w7.drew) _ _
  generalize w7.drew = wz at t1 t2 blz ⊢
  repeat still_step
  refine wpStill_nil ?_
  go_wp2_with fail
  refine (same_take HB _ _ _ _ _ hnx hny h9 t1 t2).mono ?_
  rintro e wy ⟨rfl, hby⟩
  have bly := blz.trans (hby.mono blz.size)
  rcases (by omega : c = -1 ∨ c = 0 ∨ c = 1) with rfl | rfl | rfl
  all_goals go_wp2
  all_goals go_ret
  all_goals exact ⟨rfl, bly⟩

theorem prefixOrder_law (f : Int) (hi lo : Nat) (b : Int) (hh : hi < 18446744073709551616) (hl : lo < 18446744073709551616) (f2 : Int) (hi2 lo2 : Nat) (b2 : Int) (hh2 : hi2 < 18446744073709551616) (hl2 : lo2 < 18446744073709551616) (w : World) (hE : Env w) :
    Calls Tryd.prog 10 #[.agg #[.int .i64 f, .int .u64 hi, .int .u64 lo, .int .i64 b], .agg #[.int .i64 f2, .int .u64 hi2, .int .u64 lo2, .int .i64 b2]] w fun e w' => e = .returned (.bool true) ∧ Below w.heap.size w w' := by
  cases h1 : vP f hi lo b with
  | false => exact order_no1 f hi lo b hh hl f2 hi2 lo2 b2 hh2 hl2 w hE (Lib.hid h1) _ (Lib.hid rfl)
  | true =>
    have p1 : 0 < (pB f hi lo b).length := by rw [pB_yes h1]; simp
    cases h2 : vP f2 hi2 lo2 b2 with
    | false => exact order_no2 f hi lo b hh hl f2 hi2 lo2 b2 hh2 hl2 w hE _ (Lib.hid rfl) p1 (Lib.hid h2)
    | true =>
      have p2 : 0 < (pB f2 hi2 lo2 b2).length := by rw [pB_yes h2]; simp
      obtain ⟨o1, o2, o3⟩ := ord_all h1 h2 hh hl hh2 hl2
      obtain ⟨c1, c2⟩ := cmP_small f hi lo b f2 hi2 lo2 b2
      exact order_yes f hi lo b hh hl f2 hi2 lo2 b2 hh2 hl2 w hE _ (Lib.hid rfl) p1 (pB_len _ _ _ _) _ (Lib.hid rfl) p2 (pB_len _ _ _ _) _ c1 c2 (Lib.hid rfl) (Lib.hid (cmP_anti f hi lo b f2 hi2 lo2 b2)) (Lib.hid o1) (Lib.hid o2) _ rfl (Lib.hid o3)

end Go.Proofs.YtnodiejfhkjliaaDoor.Pf
