/- The walk of StampOneForm. -/
import Derived.Test.YtpjgebbmbiohbaaDoorStampK
import Derived.Deep.DeepCutAuto
namespace Go.Proofs.YtpjgebbmbiohbaaDoor.St
open Go.RowKit Go.Proofs.YtpjgebbmbiohbaaDoor.Wd Go.Proofs.YtpjgebbmbiohbaaDoor.Pl Go.Proofs.YtpjgebbmbiohbaaDoor.Px Go.Proofs.YtpjgebbmbiohbaaDoor.En Go.Proofs.YtpjgebbmbiohbaaDoor.By

set_option maxRecDepth 20000 in
set_option maxHeartbeats 8000000 in
theorem one_yy (s n a b x y u v : Int) (l g : List UInt8) (A : Option Addr) (c : Nat) (w : World) (hE : Env w) (hA : Shows cel w w.heap.size A l) (hg : g.length ≤ 140737488355328) (hf : Fits s n a b) (ha1 : a ≤ 9223372036854775807) (hV : Is (vld a b) true) (k : List UInt8) (hk : Is (prt a b) k) (hk2 : k.length ≤ 140737488355328) (hk3 : Is (prs k) (some (a, b))) (j : List UInt8) (hj : Is (lb a b) j) (hj2 : Gets j a b 0) (hG : Gets l x y 0) (hx : x ≤ 9223372036854775807) (hG1 : Is (lb x y) l) (hG2 : Is (vld x y) true) (hl : l.length ≤ 140737488355328) (hu : u ≤ 9223372036854775807) (hP1 : Is (prt u v) g) (hP2 : Is (vld u v) true) (hP : Is (prs g) (some (u, v))) :
    Calls Tryd.prog 11 #[.agg #[.int .i64 s, .int .i64 n], .slice A l.length c, .string ⟨g.toArray⟩] w fun e w' => e = .returned (.bool true) ∧ Below w.heap.size w w' := by
  go_enter Tryd.func11, Tryd.ntmps11

  have E0 := hE.on ((Below.refl _ w).alloc (by exact Nat.le_refl _) (.cells #[.int .i64 s, .int .i64 n] 23))
  go_wp2_with fail
  refine (known_any _ E0).mono ?_
  rintro e w1 ⟨rfl, hb1⟩
  have bo1 : Below w.heap.size w w1 := ((Below.refl _ w).alloc (Nat.le_refl _) _).trans (hb1.mono (by simp <;> omega))
  have c1_0 := keepc hb1 (b := w.heap.size) (o := 0) (v := .int .i64 s) (by go_simp)
  have c1_1 := keepc hb1 (b := w.heap.size) (o := 1) (v := .int .i64 n) (by go_simp)
  have l1 : w.heap.size < w1.heap.size := by
    have := hb1.size
    try simp at this
    omega
  have f1 := keepf hb1 (b := w.heap.size) (by simp <;> omega) (fun o => by go_simp)
  have bl1 : Below w.heap.size w w1 := (Below.refl _ _).trans (bo1.mono (Nat.le_refl _))
  clear hb1 bo1 E0
  go_wp2_with fail
  refine (fit_as hf _).mono ?_
  rintro e w2 ⟨rfl, hb2⟩
  have bo2 := hb2
  have c1_0_2 := keepc bo2 c1_0
  have c1_1_2 := keepc bo2 c1_1
  have l1_2 := Nat.lt_of_lt_of_le l1 bo2.size
  have f1_2 := keepf bo2 l1 f1
  have bl2 : Below w.heap.size w w2 := bl1.trans (bo2.mono bl1.size)
  clear c1_0 c1_1 l1 f1 bl1 hb2 bo2
  go_wp2_with fail
  refine (valid_as ha1 hV _).mono ?_
  rintro e w3 ⟨rfl, hb3⟩
  have c1_0_3 := keepc hb3 (b := w.heap.size) (o := 0) (v := .int .i64 a) (by go_simp)
  have c1_1_3 := keepc hb3 (b := w.heap.size) (o := 1) (v := .int .i64 b) (by go_simp)
  have l1_3 : w.heap.size < w3.heap.size := by
    have := hb3.size
    try simp at this
    omega
  have f1_3 := keepf hb3 (b := w.heap.size) (by simp <;> omega) (fun o => by go_simp)
  have bl3 : Below w.heap.size w w3 := (((bl2).setCell (p := ⟨w.heap.size, 0, none⟩) (by simp <;> omega) (.int .i64 a)).setCell (p := ⟨w.heap.size, 1, none⟩) (by simp <;> omega) (.int .i64 b)).trans (hb3.mono (by have := bl2.size; simp <;> omega))
  clear c1_0_2 c1_1_2 l1_2 f1_2 bl2 hb3
  go_wp2_with fail
  refine (put_as hj _ ha1).mono ?_
  rintro e w4 ⟨A1, c1, rfl, hs1, hb4⟩
  have bo4 := hb4
  have c1_0_4 := keepc bo4 c1_0_3
  have c1_1_4 := keepc bo4 c1_1_3
  have l1_4 := Nat.lt_of_lt_of_le l1_3 bo4.size
  have f1_4 := keepf bo4 l1_3 f1_3
  have bl4 : Below w.heap.size w w4 := bl3.trans (bo4.mono bl3.size)
  clear c1_0_3 c1_1_3 l1_3 f1_3 bl3 hb4 bo4
  go_wp2_with fail
  refine (get_as hj2 _ _ _ hs1).mono ?_
  rintro e w5 ⟨rfl, hb5⟩
  have bo5 := hb5
  have c1_0_5 := keepc bo5 c1_0_4
  have c1_1_5 := keepc bo5 c1_1_4
  have l1_5 := Nat.lt_of_lt_of_le l1_4 bo5.size
  have f1_5 := keepf bo5 l1_4 f1_4
  have hs1_5 := hs1.on bo5
  have bl5 : Below w.heap.size w w5 := bl4.trans (bo5.mono bl4.size)
  clear c1_0_4 c1_1_4 l1_4 f1_4 hs1 bl4 hb5 bo5
  have le1 : w.heap.size ≤ w5.heap.size := by
    have := bl5.size
    omega
  have ne2 : ¬ w.heap.size = w5.heap.size := by
    have := l1_5
    omega
  have nr2 : ¬ w5.heap.size = w.heap.size := by
    have := l1_5
    omega
  have E5 := hE.on ((bl5).alloc (by exact bl5.size) (.cells #[.int .i64 a, .int .i64 b] 23))
  go_wp2_with fail
  refine (print_as hk _ ha1 E5).mono ?_
  rintro e w6 ⟨rfl, hb6⟩
  have bo6 : Below w5.heap.size w5 w6 := ((Below.refl _ w5).alloc (Nat.le_refl _) _).trans (hb6.mono (by simp <;> omega))
  have c1_0_6 := keepc bo6 c1_0_5
  have c1_1_6 := keepc bo6 c1_1_5
  have l1_6 := Nat.lt_of_lt_of_le l1_5 bo6.size
  have f1_6 := keepf bo6 l1_5 f1_5
  have c2_0 := keepc hb6 (b := w5.heap.size) (o := 0) (v := .int .i64 a) (by go_simp)
  have c2_1 := keepc hb6 (b := w5.heap.size) (o := 1) (v := .int .i64 b) (by go_simp)
  have l2 : w5.heap.size < w6.heap.size := by
    have := hb6.size
    try simp at this
    omega
  have f2 := keepf hb6 (b := w5.heap.size) (by simp <;> omega) (fun o => by go_simp)
  have bl6 : Below w.heap.size w w6 := bl5.trans (bo6.mono bl5.size)
  clear c1_0_5 c1_1_5 l1_5 f1_5 bl5 hb6 bo6 E5
  have E6 := hE.on (bl6)
  go_wp2_with fail
  refine (parse_as hk3 _ hk2 E6).mono ?_
  rintro e w7 ⟨rfl, hb7⟩
  rw [show ofPrs (some (a, b)) = .tuple #[.agg #[.int .i64 a, .int .i64 b], .int .i64 0] from rfl]
  have bo7 := hb7
  have c1_0_7 := keepc bo7 c1_0_6
  have c1_1_7 := keepc bo7 c1_1_6
  have l1_7 := Nat.lt_of_lt_of_le l1_6 bo7.size
  have f1_7 := keepf bo7 l1_6 f1_6
  have c2_0_7 := keepc bo7 c2_0
  have c2_1_7 := keepc bo7 c2_1
  have l2_7 := Nat.lt_of_lt_of_le l2 bo7.size
  have f2_7 := keepf bo7 l2 f2
  have bl7 : Below w.heap.size w w7 := bl6.trans (bo7.mono bl6.size)
  clear c1_0_6 c1_1_6 l1_6 f1_6 c2_0 c2_1 l2 f2 bl6 hb7 bo7 E6
  have le3 : w.heap.size ≤ w7.heap.size := by
    have := bl7.size
    omega
  have ne4 : ¬ w.heap.size = w7.heap.size := by
    have := l1_7
    omega
  have nr4 : ¬ w7.heap.size = w.heap.size := by
    have := l1_7
    omega
  have ne5 : ¬ w5.heap.size = w7.heap.size := by
    have := l2_7
    omega
  have nr5 : ¬ w7.heap.size = w5.heap.size := by
    have := l2_7
    omega
  go_wp2_with fail
  refine (sam_k a b _).mono ?_
  rintro e w8 ⟨rfl, hb8⟩
  have bo8 : Below w7.heap.size w7 w8 := ((Below.refl _ w7).alloc (Nat.le_refl _) _).trans (hb8.mono (by simp <;> omega))
  have c1_0_8 := keepc bo8 c1_0_7
  have c1_1_8 := keepc bo8 c1_1_7
  have l1_8 := Nat.lt_of_lt_of_le l1_7 bo8.size
  have f1_8 := keepf bo8 l1_7 f1_7
  have c2_0_8 := keepc bo8 c2_0_7
  have c2_1_8 := keepc bo8 c2_1_7
  have l2_8 := Nat.lt_of_lt_of_le l2_7 bo8.size
  have f2_8 := keepf bo8 l2_7 f2_7
  have c3_0 := keepc hb8 (b := w7.heap.size) (o := 0) (v := .int .i64 a) (by go_simp)
  have c3_1 := keepc hb8 (b := w7.heap.size) (o := 1) (v := .int .i64 b) (by go_simp)
  have l3 : w7.heap.size < w8.heap.size := by
    have := hb8.size
    try simp at this
    omega
  have f3 := keepf hb8 (b := w7.heap.size) (by simp <;> omega) (fun o => by go_simp)
  have bl8 : Below w.heap.size w w8 := bl7.trans (bo8.mono bl7.size)
  clear c1_0_7 c1_1_7 l1_7 f1_7 c2_0_7 c2_1_7 l2_7 f2_7 bl7 hb8 bo8
  go_wp2_with fail
  refine (sam_k a b _).mono ?_
  rintro e w9 ⟨rfl, hb9⟩
  have bo9 := hb9
  have c1_0_9 := keepc bo9 c1_0_8
  have c1_1_9 := keepc bo9 c1_1_8
  have l1_9 := Nat.lt_of_lt_of_le l1_8 bo9.size
  have f1_9 := keepf bo9 l1_8 f1_8
  have c2_0_9 := keepc bo9 c2_0_8
  have c2_1_9 := keepc bo9 c2_1_8
  have l2_9 := Nat.lt_of_lt_of_le l2_8 bo9.size
  have f2_9 := keepf bo9 l2_8 f2_8
  have c3_0_9 := keepc bo9 c3_0
  have c3_1_9 := keepc bo9 c3_1
  have l3_9 := Nat.lt_of_lt_of_le l3 bo9.size
  have f3_9 := keepf bo9 l3 f3
  have bl9 : Below w.heap.size w w9 := bl8.trans (bo9.mono bl8.size)
  clear c1_0_8 c1_1_8 l1_8 f1_8 c2_0_8 c2_1_8 l2_8 f2_8 c3_0 c3_1 l3 f3 bl8 hb9 bo9
  have hA2 := hA.on bl9
  go_wp2_with (go_at_call 29; refine (num_any _ _).mono ?_; rintro e w' ⟨rfl, rfl⟩)
  refine (get_as hG _ _ _ hA2).mono ?_
  rintro e w10 ⟨rfl, hb10⟩
  have bo10 := hb10
  have c1_0_10 := keepc bo10 c1_0_9
  have c1_1_10 := keepc bo10 c1_1_9
  have l1_10 := Nat.lt_of_lt_of_le l1_9 bo10.size
  have f1_10 := keepf bo10 l1_9 f1_9
  have c2_0_10 := keepc bo10 c2_0_9
  have c2_1_10 := keepc bo10 c2_1_9
  have l2_10 := Nat.lt_of_lt_of_le l2_9 bo10.size
  have f2_10 := keepf bo10 l2_9 f2_9
  have c3_0_10 := keepc bo10 c3_0_9
  have c3_1_10 := keepc bo10 c3_1_9
  have l3_10 := Nat.lt_of_lt_of_le l3_9 bo10.size
  have f3_10 := keepf bo10 l3_9 f3_9
  have bl10 : Below w.heap.size w w10 := bl9.trans (bo10.mono bl9.size)
  clear c1_0_9 c1_1_9 l1_9 f1_9 c2_0_9 c2_1_9 l2_9 f2_9 c3_0_9 c3_1_9 l3_9 f3_9 bl9 hb10 bo10 hA2
  go_wp2_with (go_at_call 29; refine (num_any _ _).mono ?_; rintro e w' ⟨rfl, rfl⟩)
  refine (put_as hG1 _ hx).mono ?_
  rintro e w11 ⟨A2, c2, rfl, hs2, hb11⟩
  have c1_0_11 := keepc hb11 (b := w.heap.size) (o := 0) (v := .int .i64 a) (by go_simp)
  have c1_1_11 := keepc hb11 (b := w.heap.size) (o := 1) (v := .int .i64 b) (by go_simp)
  have l1_11 : w.heap.size < w11.heap.size := by
    have := hb11.size
    try simp at this
    omega
  have f1_11 := keepf hb11 (b := w.heap.size) (by simp <;> omega) (fun o => by go_simp)
  have c2_0_11 := keepc hb11 (b := w5.heap.size) (o := 0) (v := .int .i64 x) (by go_simp)
  have c2_1_11 := keepc hb11 (b := w5.heap.size) (o := 1) (v := .int .i64 y) (by go_simp)
  have l2_11 : w5.heap.size < w11.heap.size := by
    have := hb11.size
    try simp at this
    omega
  have f2_11 := keepf hb11 (b := w5.heap.size) (by simp <;> omega) (fun o => by go_simp)
  have c3_0_11 := keepc hb11 (b := w7.heap.size) (o := 0) (v := .int .i64 a) (by go_simp)
  have c3_1_11 := keepc hb11 (b := w7.heap.size) (o := 1) (v := .int .i64 b) (by go_simp)
  have l3_11 : w7.heap.size < w11.heap.size := by
    have := hb11.size
    try simp at this
    omega
  have f3_11 := keepf hb11 (b := w7.heap.size) (by simp <;> omega) (fun o => by go_simp)
  have bl11 : Below w.heap.size w w11 := (((bl10).setCell (p := ⟨w5.heap.size, 0, none⟩) (by simp <;> omega) (.int .i64 x)).setCell (p := ⟨w5.heap.size, 1, none⟩) (by simp <;> omega) (.int .i64 y)).trans (hb11.mono (by have := bl10.size; simp <;> omega))
  clear c1_0_10 c1_1_10 l1_10 f1_10 c2_0_10 c2_1_10 l2_10 f2_10 c3_0_10 c3_1_10 l3_10 f3_10 bl10 hb11
  have hA2 := hA.on bl11
  go_wp2_with fail
  refine (sameb_yes l _ _ _ _ _ hl hs2 hA2).mono ?_
  rintro e w12 ⟨rfl, hb12⟩
  have bo12 := hb12
  have c1_0_12 := keepc bo12 c1_0_11
  have c1_1_12 := keepc bo12 c1_1_11
  have l1_12 := Nat.lt_of_lt_of_le l1_11 bo12.size
  have f1_12 := keepf bo12 l1_11 f1_11
  have c2_0_12 := keepc bo12 c2_0_11
  have c2_1_12 := keepc bo12 c2_1_11
  have l2_12 := Nat.lt_of_lt_of_le l2_11 bo12.size
  have f2_12 := keepf bo12 l2_11 f2_11
  have c3_0_12 := keepc bo12 c3_0_11
  have c3_1_12 := keepc bo12 c3_1_11
  have l3_12 := Nat.lt_of_lt_of_le l3_11 bo12.size
  have f3_12 := keepf bo12 l3_11 f3_11
  have hs2_12 := hs2.on bo12
  have bl12 : Below w.heap.size w w12 := bl11.trans (bo12.mono bl11.size)
  clear c1_0_11 c1_1_11 l1_11 f1_11 c2_0_11 c2_1_11 l2_11 f2_11 c3_0_11 c3_1_11 l3_11 f3_11 hs2 bl11 hb12 bo12 hA2
  go_wp2_with fail
  refine (valid_as hx hG2 _).mono ?_
  rintro e w13 ⟨rfl, hb13⟩
  have bo13 := hb13
  have c1_0_13 := keepc bo13 c1_0_12
  have c1_1_13 := keepc bo13 c1_1_12
  have l1_13 := Nat.lt_of_lt_of_le l1_12 bo13.size
  have f1_13 := keepf bo13 l1_12 f1_12
  have c2_0_13 := keepc bo13 c2_0_12
  have c2_1_13 := keepc bo13 c2_1_12
  have l2_13 := Nat.lt_of_lt_of_le l2_12 bo13.size
  have f2_13 := keepf bo13 l2_12 f2_12
  have c3_0_13 := keepc bo13 c3_0_12
  have c3_1_13 := keepc bo13 c3_1_12
  have l3_13 := Nat.lt_of_lt_of_le l3_12 bo13.size
  have f3_13 := keepf bo13 l3_12 f3_12
  have bl13 : Below w.heap.size w w13 := bl12.trans (bo13.mono bl12.size)
  clear c1_0_12 c1_1_12 l1_12 f1_12 c2_0_12 c2_1_12 l2_12 f2_12 c3_0_12 c3_1_12 l3_12 f3_12 bl12 hb13 bo13
  have E13 := hE.on (bl13)
  go_wp2_with (go_at_call 29; refine (num_any _ _).mono ?_; rintro e w' ⟨rfl, rfl⟩)
  refine (parse_as hP _ hg E13).mono ?_
  rintro e w14 ⟨rfl, hb14⟩
  rw [show ofPrs (some (u, v)) = .tuple #[.agg #[.int .i64 u, .int .i64 v], .int .i64 0] from rfl]
  have bo14 := hb14
  have c1_0_14 := keepc bo14 c1_0_13
  have c1_1_14 := keepc bo14 c1_1_13
  have l1_14 := Nat.lt_of_lt_of_le l1_13 bo14.size
  have f1_14 := keepf bo14 l1_13 f1_13
  have c2_0_14 := keepc bo14 c2_0_13
  have c2_1_14 := keepc bo14 c2_1_13
  have l2_14 := Nat.lt_of_lt_of_le l2_13 bo14.size
  have f2_14 := keepf bo14 l2_13 f2_13
  have c3_0_14 := keepc bo14 c3_0_13
  have c3_1_14 := keepc bo14 c3_1_13
  have l3_14 := Nat.lt_of_lt_of_le l3_13 bo14.size
  have f3_14 := keepf bo14 l3_13 f3_13
  have bl14 : Below w.heap.size w w14 := bl13.trans (bo14.mono bl13.size)
  clear c1_0_13 c1_1_13 l1_13 f1_13 c2_0_13 c2_1_13 l2_13 f2_13 c3_0_13 c3_1_13 l3_13 f3_13 bl13 hb14 bo14 E13
  go_wp2_with (go_at_call 29; refine (num_any _ _).mono ?_; rintro e w' ⟨rfl, rfl⟩)
  refine (valid_as hu hP2 _).mono ?_
  rintro e w15 ⟨rfl, hb15⟩
  have c1_0_15 := keepc hb15 (b := w.heap.size) (o := 0) (v := .int .i64 a) (by go_simp)
  have c1_1_15 := keepc hb15 (b := w.heap.size) (o := 1) (v := .int .i64 b) (by go_simp)
  have l1_15 : w.heap.size < w15.heap.size := by
    have := hb15.size
    try simp at this
    omega
  have f1_15 := keepf hb15 (b := w.heap.size) (by simp <;> omega) (fun o => by go_simp)
  have c2_0_15 := keepc hb15 (b := w5.heap.size) (o := 0) (v := .int .i64 x) (by go_simp)
  have c2_1_15 := keepc hb15 (b := w5.heap.size) (o := 1) (v := .int .i64 y) (by go_simp)
  have l2_15 : w5.heap.size < w15.heap.size := by
    have := hb15.size
    try simp at this
    omega
  have f2_15 := keepf hb15 (b := w5.heap.size) (by simp <;> omega) (fun o => by go_simp)
  have c3_0_15 := keepc hb15 (b := w7.heap.size) (o := 0) (v := .int .i64 u) (by go_simp)
  have c3_1_15 := keepc hb15 (b := w7.heap.size) (o := 1) (v := .int .i64 v) (by go_simp)
  have l3_15 : w7.heap.size < w15.heap.size := by
    have := hb15.size
    try simp at this
    omega
  have f3_15 := keepf hb15 (b := w7.heap.size) (by simp <;> omega) (fun o => by go_simp)
  have bl15 : Below w.heap.size w w15 := (((bl14).setCell (p := ⟨w7.heap.size, 0, none⟩) (by simp <;> omega) (.int .i64 u)).setCell (p := ⟨w7.heap.size, 1, none⟩) (by simp <;> omega) (.int .i64 v)).trans (hb15.mono (by have := bl14.size; simp <;> omega))
  clear c1_0_14 c1_1_14 l1_14 f1_14 c2_0_14 c2_1_14 l2_14 f2_14 c3_0_14 c3_1_14 l3_14 f3_14 bl14 hb15
  have E15 := hE.on (bl15)
  go_wp2_with fail
  refine (print_as hP1 _ hu E15).mono ?_
  rintro e w16 ⟨rfl, hb16⟩
  have bo16 := hb16
  have c1_0_16 := keepc bo16 c1_0_15
  have c1_1_16 := keepc bo16 c1_1_15
  have l1_16 := Nat.lt_of_lt_of_le l1_15 bo16.size
  have f1_16 := keepf bo16 l1_15 f1_15
  have c2_0_16 := keepc bo16 c2_0_15
  have c2_1_16 := keepc bo16 c2_1_15
  have l2_16 := Nat.lt_of_lt_of_le l2_15 bo16.size
  have f2_16 := keepf bo16 l2_15 f2_15
  have c3_0_16 := keepc bo16 c3_0_15
  have c3_1_16 := keepc bo16 c3_1_15
  have l3_16 := Nat.lt_of_lt_of_le l3_15 bo16.size
  have f3_16 := keepf bo16 l3_15 f3_15
  have bl16 : Below w.heap.size w w16 := bl15.trans (bo16.mono bl15.size)
  clear c1_0_15 c1_1_15 l1_15 f1_15 c2_0_15 c2_1_15 l2_15 f2_15 c3_0_15 c3_1_15 l3_15 f3_15 bl15 hb16 bo16 E15
  have hgg : (g == g) = true := by simp
  go_wp2
  go_ret
  exact ⟨rfl, bl16⟩

set_option maxRecDepth 20000 in
set_option maxHeartbeats 8000000 in
theorem one_yn (s n a b x y : Int) (l g : List UInt8) (A : Option Addr) (c : Nat) (w : World) (hE : Env w) (hA : Shows cel w w.heap.size A l) (hg : g.length ≤ 140737488355328) (hf : Fits s n a b) (ha1 : a ≤ 9223372036854775807) (hV : Is (vld a b) true) (k : List UInt8) (hk : Is (prt a b) k) (hk2 : k.length ≤ 140737488355328) (hk3 : Is (prs k) (some (a, b))) (j : List UInt8) (hj : Is (lb a b) j) (hj2 : Gets j a b 0) (hG : Gets l x y 0) (hx : x ≤ 9223372036854775807) (hG1 : Is (lb x y) l) (hG2 : Is (vld x y) true) (hl : l.length ≤ 140737488355328) (hP : Is (prs g) none) :
    Calls Tryd.prog 11 #[.agg #[.int .i64 s, .int .i64 n], .slice A l.length c, .string ⟨g.toArray⟩] w fun e w' => e = .returned (.bool true) ∧ Below w.heap.size w w' := by
  go_enter Tryd.func11, Tryd.ntmps11

  have E0 := hE.on ((Below.refl _ w).alloc (by exact Nat.le_refl _) (.cells #[.int .i64 s, .int .i64 n] 23))
  go_wp2_with fail
  refine (known_any _ E0).mono ?_
  rintro e w1 ⟨rfl, hb1⟩
  have bo1 : Below w.heap.size w w1 := ((Below.refl _ w).alloc (Nat.le_refl _) _).trans (hb1.mono (by simp <;> omega))
  have c1_0 := keepc hb1 (b := w.heap.size) (o := 0) (v := .int .i64 s) (by go_simp)
  have c1_1 := keepc hb1 (b := w.heap.size) (o := 1) (v := .int .i64 n) (by go_simp)
  have l1 : w.heap.size < w1.heap.size := by
    have := hb1.size
    try simp at this
    omega
  have f1 := keepf hb1 (b := w.heap.size) (by simp <;> omega) (fun o => by go_simp)
  have bl1 : Below w.heap.size w w1 := (Below.refl _ _).trans (bo1.mono (Nat.le_refl _))
  clear hb1 bo1 E0
  go_wp2_with fail
  refine (fit_as hf _).mono ?_
  rintro e w2 ⟨rfl, hb2⟩
  have bo2 := hb2
  have c1_0_2 := keepc bo2 c1_0
  have c1_1_2 := keepc bo2 c1_1
  have l1_2 := Nat.lt_of_lt_of_le l1 bo2.size
  have f1_2 := keepf bo2 l1 f1
  have bl2 : Below w.heap.size w w2 := bl1.trans (bo2.mono bl1.size)
  clear c1_0 c1_1 l1 f1 bl1 hb2 bo2
  go_wp2_with fail
  refine (valid_as ha1 hV _).mono ?_
  rintro e w3 ⟨rfl, hb3⟩
  have c1_0_3 := keepc hb3 (b := w.heap.size) (o := 0) (v := .int .i64 a) (by go_simp)
  have c1_1_3 := keepc hb3 (b := w.heap.size) (o := 1) (v := .int .i64 b) (by go_simp)
  have l1_3 : w.heap.size < w3.heap.size := by
    have := hb3.size
    try simp at this
    omega
  have f1_3 := keepf hb3 (b := w.heap.size) (by simp <;> omega) (fun o => by go_simp)
  have bl3 : Below w.heap.size w w3 := (((bl2).setCell (p := ⟨w.heap.size, 0, none⟩) (by simp <;> omega) (.int .i64 a)).setCell (p := ⟨w.heap.size, 1, none⟩) (by simp <;> omega) (.int .i64 b)).trans (hb3.mono (by have := bl2.size; simp <;> omega))
  clear c1_0_2 c1_1_2 l1_2 f1_2 bl2 hb3
  go_wp2_with fail
  refine (put_as hj _ ha1).mono ?_
  rintro e w4 ⟨A1, c1, rfl, hs1, hb4⟩
  have bo4 := hb4
  have c1_0_4 := keepc bo4 c1_0_3
  have c1_1_4 := keepc bo4 c1_1_3
  have l1_4 := Nat.lt_of_lt_of_le l1_3 bo4.size
  have f1_4 := keepf bo4 l1_3 f1_3
  have bl4 : Below w.heap.size w w4 := bl3.trans (bo4.mono bl3.size)
  clear c1_0_3 c1_1_3 l1_3 f1_3 bl3 hb4 bo4
  go_wp2_with fail
  refine (get_as hj2 _ _ _ hs1).mono ?_
  rintro e w5 ⟨rfl, hb5⟩
  have bo5 := hb5
  have c1_0_5 := keepc bo5 c1_0_4
  have c1_1_5 := keepc bo5 c1_1_4
  have l1_5 := Nat.lt_of_lt_of_le l1_4 bo5.size
  have f1_5 := keepf bo5 l1_4 f1_4
  have hs1_5 := hs1.on bo5
  have bl5 : Below w.heap.size w w5 := bl4.trans (bo5.mono bl4.size)
  clear c1_0_4 c1_1_4 l1_4 f1_4 hs1 bl4 hb5 bo5
  have le1 : w.heap.size ≤ w5.heap.size := by
    have := bl5.size
    omega
  have ne2 : ¬ w.heap.size = w5.heap.size := by
    have := l1_5
    omega
  have nr2 : ¬ w5.heap.size = w.heap.size := by
    have := l1_5
    omega
  have E5 := hE.on ((bl5).alloc (by exact bl5.size) (.cells #[.int .i64 a, .int .i64 b] 23))
  go_wp2_with fail
  refine (print_as hk _ ha1 E5).mono ?_
  rintro e w6 ⟨rfl, hb6⟩
  have bo6 : Below w5.heap.size w5 w6 := ((Below.refl _ w5).alloc (Nat.le_refl _) _).trans (hb6.mono (by simp <;> omega))
  have c1_0_6 := keepc bo6 c1_0_5
  have c1_1_6 := keepc bo6 c1_1_5
  have l1_6 := Nat.lt_of_lt_of_le l1_5 bo6.size
  have f1_6 := keepf bo6 l1_5 f1_5
  have c2_0 := keepc hb6 (b := w5.heap.size) (o := 0) (v := .int .i64 a) (by go_simp)
  have c2_1 := keepc hb6 (b := w5.heap.size) (o := 1) (v := .int .i64 b) (by go_simp)
  have l2 : w5.heap.size < w6.heap.size := by
    have := hb6.size
    try simp at this
    omega
  have f2 := keepf hb6 (b := w5.heap.size) (by simp <;> omega) (fun o => by go_simp)
  have bl6 : Below w.heap.size w w6 := bl5.trans (bo6.mono bl5.size)
  clear c1_0_5 c1_1_5 l1_5 f1_5 bl5 hb6 bo6 E5
  have E6 := hE.on (bl6)
  go_wp2_with fail
  refine (parse_as hk3 _ hk2 E6).mono ?_
  rintro e w7 ⟨rfl, hb7⟩
  rw [show ofPrs (some (a, b)) = .tuple #[.agg #[.int .i64 a, .int .i64 b], .int .i64 0] from rfl]
  have bo7 := hb7
  have c1_0_7 := keepc bo7 c1_0_6
  have c1_1_7 := keepc bo7 c1_1_6
  have l1_7 := Nat.lt_of_lt_of_le l1_6 bo7.size
  have f1_7 := keepf bo7 l1_6 f1_6
  have c2_0_7 := keepc bo7 c2_0
  have c2_1_7 := keepc bo7 c2_1
  have l2_7 := Nat.lt_of_lt_of_le l2 bo7.size
  have f2_7 := keepf bo7 l2 f2
  have bl7 : Below w.heap.size w w7 := bl6.trans (bo7.mono bl6.size)
  clear c1_0_6 c1_1_6 l1_6 f1_6 c2_0 c2_1 l2 f2 bl6 hb7 bo7 E6
  have le3 : w.heap.size ≤ w7.heap.size := by
    have := bl7.size
    omega
  have ne4 : ¬ w.heap.size = w7.heap.size := by
    have := l1_7
    omega
  have nr4 : ¬ w7.heap.size = w.heap.size := by
    have := l1_7
    omega
  have ne5 : ¬ w5.heap.size = w7.heap.size := by
    have := l2_7
    omega
  have nr5 : ¬ w7.heap.size = w5.heap.size := by
    have := l2_7
    omega
  go_wp2_with fail
  refine (sam_k a b _).mono ?_
  rintro e w8 ⟨rfl, hb8⟩
  have bo8 : Below w7.heap.size w7 w8 := ((Below.refl _ w7).alloc (Nat.le_refl _) _).trans (hb8.mono (by simp <;> omega))
  have c1_0_8 := keepc bo8 c1_0_7
  have c1_1_8 := keepc bo8 c1_1_7
  have l1_8 := Nat.lt_of_lt_of_le l1_7 bo8.size
  have f1_8 := keepf bo8 l1_7 f1_7
  have c2_0_8 := keepc bo8 c2_0_7
  have c2_1_8 := keepc bo8 c2_1_7
  have l2_8 := Nat.lt_of_lt_of_le l2_7 bo8.size
  have f2_8 := keepf bo8 l2_7 f2_7
  have c3_0 := keepc hb8 (b := w7.heap.size) (o := 0) (v := .int .i64 a) (by go_simp)
  have c3_1 := keepc hb8 (b := w7.heap.size) (o := 1) (v := .int .i64 b) (by go_simp)
  have l3 : w7.heap.size < w8.heap.size := by
    have := hb8.size
    try simp at this
    omega
  have f3 := keepf hb8 (b := w7.heap.size) (by simp <;> omega) (fun o => by go_simp)
  have bl8 : Below w.heap.size w w8 := bl7.trans (bo8.mono bl7.size)
  clear c1_0_7 c1_1_7 l1_7 f1_7 c2_0_7 c2_1_7 l2_7 f2_7 bl7 hb8 bo8
  go_wp2_with fail
  refine (sam_k a b _).mono ?_
  rintro e w9 ⟨rfl, hb9⟩
  have bo9 := hb9
  have c1_0_9 := keepc bo9 c1_0_8
  have c1_1_9 := keepc bo9 c1_1_8
  have l1_9 := Nat.lt_of_lt_of_le l1_8 bo9.size
  have f1_9 := keepf bo9 l1_8 f1_8
  have c2_0_9 := keepc bo9 c2_0_8
  have c2_1_9 := keepc bo9 c2_1_8
  have l2_9 := Nat.lt_of_lt_of_le l2_8 bo9.size
  have f2_9 := keepf bo9 l2_8 f2_8
  have c3_0_9 := keepc bo9 c3_0
  have c3_1_9 := keepc bo9 c3_1
  have l3_9 := Nat.lt_of_lt_of_le l3 bo9.size
  have f3_9 := keepf bo9 l3 f3
  have bl9 : Below w.heap.size w w9 := bl8.trans (bo9.mono bl8.size)
  clear c1_0_8 c1_1_8 l1_8 f1_8 c2_0_8 c2_1_8 l2_8 f2_8 c3_0 c3_1 l3 f3 bl8 hb9 bo9
  have hA2 := hA.on bl9
  go_wp2_with (go_at_call 29; refine (num_any _ _).mono ?_; rintro e w' ⟨rfl, rfl⟩)
  refine (get_as hG _ _ _ hA2).mono ?_
  rintro e w10 ⟨rfl, hb10⟩
  have bo10 := hb10
  have c1_0_10 := keepc bo10 c1_0_9
  have c1_1_10 := keepc bo10 c1_1_9
  have l1_10 := Nat.lt_of_lt_of_le l1_9 bo10.size
  have f1_10 := keepf bo10 l1_9 f1_9
  have c2_0_10 := keepc bo10 c2_0_9
  have c2_1_10 := keepc bo10 c2_1_9
  have l2_10 := Nat.lt_of_lt_of_le l2_9 bo10.size
  have f2_10 := keepf bo10 l2_9 f2_9
  have c3_0_10 := keepc bo10 c3_0_9
  have c3_1_10 := keepc bo10 c3_1_9
  have l3_10 := Nat.lt_of_lt_of_le l3_9 bo10.size
  have f3_10 := keepf bo10 l3_9 f3_9
  have bl10 : Below w.heap.size w w10 := bl9.trans (bo10.mono bl9.size)
  clear c1_0_9 c1_1_9 l1_9 f1_9 c2_0_9 c2_1_9 l2_9 f2_9 c3_0_9 c3_1_9 l3_9 f3_9 bl9 hb10 bo10 hA2
  go_wp2_with (go_at_call 29; refine (num_any _ _).mono ?_; rintro e w' ⟨rfl, rfl⟩)
  refine (put_as hG1 _ hx).mono ?_
  rintro e w11 ⟨A2, c2, rfl, hs2, hb11⟩
  have c1_0_11 := keepc hb11 (b := w.heap.size) (o := 0) (v := .int .i64 a) (by go_simp)
  have c1_1_11 := keepc hb11 (b := w.heap.size) (o := 1) (v := .int .i64 b) (by go_simp)
  have l1_11 : w.heap.size < w11.heap.size := by
    have := hb11.size
    try simp at this
    omega
  have f1_11 := keepf hb11 (b := w.heap.size) (by simp <;> omega) (fun o => by go_simp)
  have c2_0_11 := keepc hb11 (b := w5.heap.size) (o := 0) (v := .int .i64 x) (by go_simp)
  have c2_1_11 := keepc hb11 (b := w5.heap.size) (o := 1) (v := .int .i64 y) (by go_simp)
  have l2_11 : w5.heap.size < w11.heap.size := by
    have := hb11.size
    try simp at this
    omega
  have f2_11 := keepf hb11 (b := w5.heap.size) (by simp <;> omega) (fun o => by go_simp)
  have c3_0_11 := keepc hb11 (b := w7.heap.size) (o := 0) (v := .int .i64 a) (by go_simp)
  have c3_1_11 := keepc hb11 (b := w7.heap.size) (o := 1) (v := .int .i64 b) (by go_simp)
  have l3_11 : w7.heap.size < w11.heap.size := by
    have := hb11.size
    try simp at this
    omega
  have f3_11 := keepf hb11 (b := w7.heap.size) (by simp <;> omega) (fun o => by go_simp)
  have bl11 : Below w.heap.size w w11 := (((bl10).setCell (p := ⟨w5.heap.size, 0, none⟩) (by simp <;> omega) (.int .i64 x)).setCell (p := ⟨w5.heap.size, 1, none⟩) (by simp <;> omega) (.int .i64 y)).trans (hb11.mono (by have := bl10.size; simp <;> omega))
  clear c1_0_10 c1_1_10 l1_10 f1_10 c2_0_10 c2_1_10 l2_10 f2_10 c3_0_10 c3_1_10 l3_10 f3_10 bl10 hb11
  have hA2 := hA.on bl11
  go_wp2_with fail
  refine (sameb_yes l _ _ _ _ _ hl hs2 hA2).mono ?_
  rintro e w12 ⟨rfl, hb12⟩
  have bo12 := hb12
  have c1_0_12 := keepc bo12 c1_0_11
  have c1_1_12 := keepc bo12 c1_1_11
  have l1_12 := Nat.lt_of_lt_of_le l1_11 bo12.size
  have f1_12 := keepf bo12 l1_11 f1_11
  have c2_0_12 := keepc bo12 c2_0_11
  have c2_1_12 := keepc bo12 c2_1_11
  have l2_12 := Nat.lt_of_lt_of_le l2_11 bo12.size
  have f2_12 := keepf bo12 l2_11 f2_11
  have c3_0_12 := keepc bo12 c3_0_11
  have c3_1_12 := keepc bo12 c3_1_11
  have l3_12 := Nat.lt_of_lt_of_le l3_11 bo12.size
  have f3_12 := keepf bo12 l3_11 f3_11
  have hs2_12 := hs2.on bo12
  have bl12 : Below w.heap.size w w12 := bl11.trans (bo12.mono bl11.size)
  clear c1_0_11 c1_1_11 l1_11 f1_11 c2_0_11 c2_1_11 l2_11 f2_11 c3_0_11 c3_1_11 l3_11 f3_11 hs2 bl11 hb12 bo12 hA2
  go_wp2_with fail
  refine (valid_as hx hG2 _).mono ?_
  rintro e w13 ⟨rfl, hb13⟩
  have bo13 := hb13
  have c1_0_13 := keepc bo13 c1_0_12
  have c1_1_13 := keepc bo13 c1_1_12
  have l1_13 := Nat.lt_of_lt_of_le l1_12 bo13.size
  have f1_13 := keepf bo13 l1_12 f1_12
  have c2_0_13 := keepc bo13 c2_0_12
  have c2_1_13 := keepc bo13 c2_1_12
  have l2_13 := Nat.lt_of_lt_of_le l2_12 bo13.size
  have f2_13 := keepf bo13 l2_12 f2_12
  have c3_0_13 := keepc bo13 c3_0_12
  have c3_1_13 := keepc bo13 c3_1_12
  have l3_13 := Nat.lt_of_lt_of_le l3_12 bo13.size
  have f3_13 := keepf bo13 l3_12 f3_12
  have bl13 : Below w.heap.size w w13 := bl12.trans (bo13.mono bl12.size)
  clear c1_0_12 c1_1_12 l1_12 f1_12 c2_0_12 c2_1_12 l2_12 f2_12 c3_0_12 c3_1_12 l3_12 f3_12 bl12 hb13 bo13
  have E13 := hE.on (bl13)
  go_wp2_with (go_at_call 29; refine (num_any _ _).mono ?_; rintro e w' ⟨rfl, rfl⟩)
  refine (parse_as hP _ hg E13).mono ?_
  rintro e w14 ⟨rfl, hb14⟩
  rw [show ofPrs none = .tuple #[.agg #[.int .i64 0, .int .i64 0], .int .i64 60] from rfl]
  have bo14 := hb14
  have c1_0_14 := keepc bo14 c1_0_13
  have c1_1_14 := keepc bo14 c1_1_13
  have l1_14 := Nat.lt_of_lt_of_le l1_13 bo14.size
  have f1_14 := keepf bo14 l1_13 f1_13
  have c2_0_14 := keepc bo14 c2_0_13
  have c2_1_14 := keepc bo14 c2_1_13
  have l2_14 := Nat.lt_of_lt_of_le l2_13 bo14.size
  have f2_14 := keepf bo14 l2_13 f2_13
  have c3_0_14 := keepc bo14 c3_0_13
  have c3_1_14 := keepc bo14 c3_1_13
  have l3_14 := Nat.lt_of_lt_of_le l3_13 bo14.size
  have f3_14 := keepf bo14 l3_13 f3_13
  have bl14 : Below w.heap.size w w14 := bl13.trans (bo14.mono bl13.size)
  clear c1_0_13 c1_1_13 l1_13 f1_13 c2_0_13 c2_1_13 l2_13 f2_13 c3_0_13 c3_1_13 l3_13 f3_13 bl13 hb14 bo14 E13
  go_wp2_with (go_at_call 29; refine (num_any _ _).mono ?_; rintro e w' ⟨rfl, rfl⟩)
  go_ret
  exact ⟨rfl, (((bl14).setCell (p := ⟨w7.heap.size, 0, none⟩) (by simp <;> omega) (.int .i64 0)).setCell (p := ⟨w7.heap.size, 1, none⟩) (by simp <;> omega) (.int .i64 0))⟩

set_option maxRecDepth 20000 in
set_option maxHeartbeats 8000000 in
theorem one_ny (s n a b u v : Int) (l g : List UInt8) (A : Option Addr) (c : Nat) (w : World) (hE : Env w) (hA : Shows cel w w.heap.size A l) (hg : g.length ≤ 140737488355328) (hf : Fits s n a b) (ha1 : a ≤ 9223372036854775807) (hV : Is (vld a b) true) (k : List UInt8) (hk : Is (prt a b) k) (hk2 : k.length ≤ 140737488355328) (hk3 : Is (prs k) (some (a, b))) (j : List UInt8) (hj : Is (lb a b) j) (hj2 : Gets j a b 0) (hG : Gets l 0 0 60) (hu : u ≤ 9223372036854775807) (hP1 : Is (prt u v) g) (hP2 : Is (vld u v) true) (hP : Is (prs g) (some (u, v))) :
    Calls Tryd.prog 11 #[.agg #[.int .i64 s, .int .i64 n], .slice A l.length c, .string ⟨g.toArray⟩] w fun e w' => e = .returned (.bool true) ∧ Below w.heap.size w w' := by
  go_enter Tryd.func11, Tryd.ntmps11

  have E0 := hE.on ((Below.refl _ w).alloc (by exact Nat.le_refl _) (.cells #[.int .i64 s, .int .i64 n] 23))
  go_wp2_with fail
  refine (known_any _ E0).mono ?_
  rintro e w1 ⟨rfl, hb1⟩
  have bo1 : Below w.heap.size w w1 := ((Below.refl _ w).alloc (Nat.le_refl _) _).trans (hb1.mono (by simp <;> omega))
  have c1_0 := keepc hb1 (b := w.heap.size) (o := 0) (v := .int .i64 s) (by go_simp)
  have c1_1 := keepc hb1 (b := w.heap.size) (o := 1) (v := .int .i64 n) (by go_simp)
  have l1 : w.heap.size < w1.heap.size := by
    have := hb1.size
    try simp at this
    omega
  have f1 := keepf hb1 (b := w.heap.size) (by simp <;> omega) (fun o => by go_simp)
  have bl1 : Below w.heap.size w w1 := (Below.refl _ _).trans (bo1.mono (Nat.le_refl _))
  clear hb1 bo1 E0
  go_wp2_with fail
  refine (fit_as hf _).mono ?_
  rintro e w2 ⟨rfl, hb2⟩
  have bo2 := hb2
  have c1_0_2 := keepc bo2 c1_0
  have c1_1_2 := keepc bo2 c1_1
  have l1_2 := Nat.lt_of_lt_of_le l1 bo2.size
  have f1_2 := keepf bo2 l1 f1
  have bl2 : Below w.heap.size w w2 := bl1.trans (bo2.mono bl1.size)
  clear c1_0 c1_1 l1 f1 bl1 hb2 bo2
  go_wp2_with fail
  refine (valid_as ha1 hV _).mono ?_
  rintro e w3 ⟨rfl, hb3⟩
  have c1_0_3 := keepc hb3 (b := w.heap.size) (o := 0) (v := .int .i64 a) (by go_simp)
  have c1_1_3 := keepc hb3 (b := w.heap.size) (o := 1) (v := .int .i64 b) (by go_simp)
  have l1_3 : w.heap.size < w3.heap.size := by
    have := hb3.size
    try simp at this
    omega
  have f1_3 := keepf hb3 (b := w.heap.size) (by simp <;> omega) (fun o => by go_simp)
  have bl3 : Below w.heap.size w w3 := (((bl2).setCell (p := ⟨w.heap.size, 0, none⟩) (by simp <;> omega) (.int .i64 a)).setCell (p := ⟨w.heap.size, 1, none⟩) (by simp <;> omega) (.int .i64 b)).trans (hb3.mono (by have := bl2.size; simp <;> omega))
  clear c1_0_2 c1_1_2 l1_2 f1_2 bl2 hb3
  go_wp2_with fail
  refine (put_as hj _ ha1).mono ?_
  rintro e w4 ⟨A1, c1, rfl, hs1, hb4⟩
  have bo4 := hb4
  have c1_0_4 := keepc bo4 c1_0_3
  have c1_1_4 := keepc bo4 c1_1_3
  have l1_4 := Nat.lt_of_lt_of_le l1_3 bo4.size
  have f1_4 := keepf bo4 l1_3 f1_3
  have bl4 : Below w.heap.size w w4 := bl3.trans (bo4.mono bl3.size)
  clear c1_0_3 c1_1_3 l1_3 f1_3 bl3 hb4 bo4
  go_wp2_with fail
  refine (get_as hj2 _ _ _ hs1).mono ?_
  rintro e w5 ⟨rfl, hb5⟩
  have bo5 := hb5
  have c1_0_5 := keepc bo5 c1_0_4
  have c1_1_5 := keepc bo5 c1_1_4
  have l1_5 := Nat.lt_of_lt_of_le l1_4 bo5.size
  have f1_5 := keepf bo5 l1_4 f1_4
  have hs1_5 := hs1.on bo5
  have bl5 : Below w.heap.size w w5 := bl4.trans (bo5.mono bl4.size)
  clear c1_0_4 c1_1_4 l1_4 f1_4 hs1 bl4 hb5 bo5
  have le1 : w.heap.size ≤ w5.heap.size := by
    have := bl5.size
    omega
  have ne2 : ¬ w.heap.size = w5.heap.size := by
    have := l1_5
    omega
  have nr2 : ¬ w5.heap.size = w.heap.size := by
    have := l1_5
    omega
  have E5 := hE.on ((bl5).alloc (by exact bl5.size) (.cells #[.int .i64 a, .int .i64 b] 23))
  go_wp2_with fail
  refine (print_as hk _ ha1 E5).mono ?_
  rintro e w6 ⟨rfl, hb6⟩
  have bo6 : Below w5.heap.size w5 w6 := ((Below.refl _ w5).alloc (Nat.le_refl _) _).trans (hb6.mono (by simp <;> omega))
  have c1_0_6 := keepc bo6 c1_0_5
  have c1_1_6 := keepc bo6 c1_1_5
  have l1_6 := Nat.lt_of_lt_of_le l1_5 bo6.size
  have f1_6 := keepf bo6 l1_5 f1_5
  have c2_0 := keepc hb6 (b := w5.heap.size) (o := 0) (v := .int .i64 a) (by go_simp)
  have c2_1 := keepc hb6 (b := w5.heap.size) (o := 1) (v := .int .i64 b) (by go_simp)
  have l2 : w5.heap.size < w6.heap.size := by
    have := hb6.size
    try simp at this
    omega
  have f2 := keepf hb6 (b := w5.heap.size) (by simp <;> omega) (fun o => by go_simp)
  have bl6 : Below w.heap.size w w6 := bl5.trans (bo6.mono bl5.size)
  clear c1_0_5 c1_1_5 l1_5 f1_5 bl5 hb6 bo6 E5
  have E6 := hE.on (bl6)
  go_wp2_with fail
  refine (parse_as hk3 _ hk2 E6).mono ?_
  rintro e w7 ⟨rfl, hb7⟩
  rw [show ofPrs (some (a, b)) = .tuple #[.agg #[.int .i64 a, .int .i64 b], .int .i64 0] from rfl]
  have bo7 := hb7
  have c1_0_7 := keepc bo7 c1_0_6
  have c1_1_7 := keepc bo7 c1_1_6
  have l1_7 := Nat.lt_of_lt_of_le l1_6 bo7.size
  have f1_7 := keepf bo7 l1_6 f1_6
  have c2_0_7 := keepc bo7 c2_0
  have c2_1_7 := keepc bo7 c2_1
  have l2_7 := Nat.lt_of_lt_of_le l2 bo7.size
  have f2_7 := keepf bo7 l2 f2
  have bl7 : Below w.heap.size w w7 := bl6.trans (bo7.mono bl6.size)
  clear c1_0_6 c1_1_6 l1_6 f1_6 c2_0 c2_1 l2 f2 bl6 hb7 bo7 E6
  have le3 : w.heap.size ≤ w7.heap.size := by
    have := bl7.size
    omega
  have ne4 : ¬ w.heap.size = w7.heap.size := by
    have := l1_7
    omega
  have nr4 : ¬ w7.heap.size = w.heap.size := by
    have := l1_7
    omega
  have ne5 : ¬ w5.heap.size = w7.heap.size := by
    have := l2_7
    omega
  have nr5 : ¬ w7.heap.size = w5.heap.size := by
    have := l2_7
    omega
  go_wp2_with fail
  refine (sam_k a b _).mono ?_
  rintro e w8 ⟨rfl, hb8⟩
  have bo8 : Below w7.heap.size w7 w8 := ((Below.refl _ w7).alloc (Nat.le_refl _) _).trans (hb8.mono (by simp <;> omega))
  have c1_0_8 := keepc bo8 c1_0_7
  have c1_1_8 := keepc bo8 c1_1_7
  have l1_8 := Nat.lt_of_lt_of_le l1_7 bo8.size
  have f1_8 := keepf bo8 l1_7 f1_7
  have c2_0_8 := keepc bo8 c2_0_7
  have c2_1_8 := keepc bo8 c2_1_7
  have l2_8 := Nat.lt_of_lt_of_le l2_7 bo8.size
  have f2_8 := keepf bo8 l2_7 f2_7
  have c3_0 := keepc hb8 (b := w7.heap.size) (o := 0) (v := .int .i64 a) (by go_simp)
  have c3_1 := keepc hb8 (b := w7.heap.size) (o := 1) (v := .int .i64 b) (by go_simp)
  have l3 : w7.heap.size < w8.heap.size := by
    have := hb8.size
    try simp at this
    omega
  have f3 := keepf hb8 (b := w7.heap.size) (by simp <;> omega) (fun o => by go_simp)
  have bl8 : Below w.heap.size w w8 := bl7.trans (bo8.mono bl7.size)
  clear c1_0_7 c1_1_7 l1_7 f1_7 c2_0_7 c2_1_7 l2_7 f2_7 bl7 hb8 bo8
  go_wp2_with fail
  refine (sam_k a b _).mono ?_
  rintro e w9 ⟨rfl, hb9⟩
  have bo9 := hb9
  have c1_0_9 := keepc bo9 c1_0_8
  have c1_1_9 := keepc bo9 c1_1_8
  have l1_9 := Nat.lt_of_lt_of_le l1_8 bo9.size
  have f1_9 := keepf bo9 l1_8 f1_8
  have c2_0_9 := keepc bo9 c2_0_8
  have c2_1_9 := keepc bo9 c2_1_8
  have l2_9 := Nat.lt_of_lt_of_le l2_8 bo9.size
  have f2_9 := keepf bo9 l2_8 f2_8
  have c3_0_9 := keepc bo9 c3_0
  have c3_1_9 := keepc bo9 c3_1
  have l3_9 := Nat.lt_of_lt_of_le l3 bo9.size
  have f3_9 := keepf bo9 l3 f3
  have bl9 : Below w.heap.size w w9 := bl8.trans (bo9.mono bl8.size)
  clear c1_0_8 c1_1_8 l1_8 f1_8 c2_0_8 c2_1_8 l2_8 f2_8 c3_0 c3_1 l3 f3 bl8 hb9 bo9
  have hA2 := hA.on bl9
  go_wp2_with (go_at_call 29; refine (num_any _ _).mono ?_; rintro e w' ⟨rfl, rfl⟩)
  refine (get_as hG _ _ _ hA2).mono ?_
  rintro e w10 ⟨rfl, hb10⟩
  have bo10 := hb10
  have c1_0_10 := keepc bo10 c1_0_9
  have c1_1_10 := keepc bo10 c1_1_9
  have l1_10 := Nat.lt_of_lt_of_le l1_9 bo10.size
  have f1_10 := keepf bo10 l1_9 f1_9
  have c2_0_10 := keepc bo10 c2_0_9
  have c2_1_10 := keepc bo10 c2_1_9
  have l2_10 := Nat.lt_of_lt_of_le l2_9 bo10.size
  have f2_10 := keepf bo10 l2_9 f2_9
  have c3_0_10 := keepc bo10 c3_0_9
  have c3_1_10 := keepc bo10 c3_1_9
  have l3_10 := Nat.lt_of_lt_of_le l3_9 bo10.size
  have f3_10 := keepf bo10 l3_9 f3_9
  have bl10 : Below w.heap.size w w10 := bl9.trans (bo10.mono bl9.size)
  clear c1_0_9 c1_1_9 l1_9 f1_9 c2_0_9 c2_1_9 l2_9 f2_9 c3_0_9 c3_1_9 l3_9 f3_9 bl9 hb10 bo10 hA2
  have E10 := hE.on (((bl10).setCell (p := ⟨w5.heap.size, 0, none⟩) (by simp <;> omega) (.int .i64 0)).setCell (p := ⟨w5.heap.size, 1, none⟩) (by simp <;> omega) (.int .i64 0))
  go_wp2_with (go_at_call 29; refine (num_any _ _).mono ?_; rintro e w' ⟨rfl, rfl⟩)
  refine (parse_as hP _ hg E10).mono ?_
  rintro e w11 ⟨rfl, hb11⟩
  rw [show ofPrs (some (u, v)) = .tuple #[.agg #[.int .i64 u, .int .i64 v], .int .i64 0] from rfl]
  have c1_0_11 := keepc hb11 (b := w.heap.size) (o := 0) (v := .int .i64 a) (by go_simp)
  have c1_1_11 := keepc hb11 (b := w.heap.size) (o := 1) (v := .int .i64 b) (by go_simp)
  have l1_11 : w.heap.size < w11.heap.size := by
    have := hb11.size
    try simp at this
    omega
  have f1_11 := keepf hb11 (b := w.heap.size) (by simp <;> omega) (fun o => by go_simp)
  have c2_0_11 := keepc hb11 (b := w5.heap.size) (o := 0) (v := .int .i64 0) (by go_simp)
  have c2_1_11 := keepc hb11 (b := w5.heap.size) (o := 1) (v := .int .i64 0) (by go_simp)
  have l2_11 : w5.heap.size < w11.heap.size := by
    have := hb11.size
    try simp at this
    omega
  have f2_11 := keepf hb11 (b := w5.heap.size) (by simp <;> omega) (fun o => by go_simp)
  have c3_0_11 := keepc hb11 (b := w7.heap.size) (o := 0) (v := .int .i64 a) (by go_simp)
  have c3_1_11 := keepc hb11 (b := w7.heap.size) (o := 1) (v := .int .i64 b) (by go_simp)
  have l3_11 : w7.heap.size < w11.heap.size := by
    have := hb11.size
    try simp at this
    omega
  have f3_11 := keepf hb11 (b := w7.heap.size) (by simp <;> omega) (fun o => by go_simp)
  have bl11 : Below w.heap.size w w11 := (((bl10).setCell (p := ⟨w5.heap.size, 0, none⟩) (by simp <;> omega) (.int .i64 0)).setCell (p := ⟨w5.heap.size, 1, none⟩) (by simp <;> omega) (.int .i64 0)).trans (hb11.mono (by have := bl10.size; simp <;> omega))
  clear c1_0_10 c1_1_10 l1_10 f1_10 c2_0_10 c2_1_10 l2_10 f2_10 c3_0_10 c3_1_10 l3_10 f3_10 bl10 hb11 E10
  go_wp2_with (go_at_call 29; refine (num_any _ _).mono ?_; rintro e w' ⟨rfl, rfl⟩)
  refine (valid_as hu hP2 _).mono ?_
  rintro e w12 ⟨rfl, hb12⟩
  have c1_0_12 := keepc hb12 (b := w.heap.size) (o := 0) (v := .int .i64 a) (by go_simp)
  have c1_1_12 := keepc hb12 (b := w.heap.size) (o := 1) (v := .int .i64 b) (by go_simp)
  have l1_12 : w.heap.size < w12.heap.size := by
    have := hb12.size
    try simp at this
    omega
  have f1_12 := keepf hb12 (b := w.heap.size) (by simp <;> omega) (fun o => by go_simp)
  have c2_0_12 := keepc hb12 (b := w5.heap.size) (o := 0) (v := .int .i64 0) (by go_simp)
  have c2_1_12 := keepc hb12 (b := w5.heap.size) (o := 1) (v := .int .i64 0) (by go_simp)
  have l2_12 : w5.heap.size < w12.heap.size := by
    have := hb12.size
    try simp at this
    omega
  have f2_12 := keepf hb12 (b := w5.heap.size) (by simp <;> omega) (fun o => by go_simp)
  have c3_0_12 := keepc hb12 (b := w7.heap.size) (o := 0) (v := .int .i64 u) (by go_simp)
  have c3_1_12 := keepc hb12 (b := w7.heap.size) (o := 1) (v := .int .i64 v) (by go_simp)
  have l3_12 : w7.heap.size < w12.heap.size := by
    have := hb12.size
    try simp at this
    omega
  have f3_12 := keepf hb12 (b := w7.heap.size) (by simp <;> omega) (fun o => by go_simp)
  have bl12 : Below w.heap.size w w12 := (((bl11).setCell (p := ⟨w7.heap.size, 0, none⟩) (by simp <;> omega) (.int .i64 u)).setCell (p := ⟨w7.heap.size, 1, none⟩) (by simp <;> omega) (.int .i64 v)).trans (hb12.mono (by have := bl11.size; simp <;> omega))
  clear c1_0_11 c1_1_11 l1_11 f1_11 c2_0_11 c2_1_11 l2_11 f2_11 c3_0_11 c3_1_11 l3_11 f3_11 bl11 hb12
  have E12 := hE.on (bl12)
  go_wp2_with fail
  refine (print_as hP1 _ hu E12).mono ?_
  rintro e w13 ⟨rfl, hb13⟩
  have bo13 := hb13
  have c1_0_13 := keepc bo13 c1_0_12
  have c1_1_13 := keepc bo13 c1_1_12
  have l1_13 := Nat.lt_of_lt_of_le l1_12 bo13.size
  have f1_13 := keepf bo13 l1_12 f1_12
  have c2_0_13 := keepc bo13 c2_0_12
  have c2_1_13 := keepc bo13 c2_1_12
  have l2_13 := Nat.lt_of_lt_of_le l2_12 bo13.size
  have f2_13 := keepf bo13 l2_12 f2_12
  have c3_0_13 := keepc bo13 c3_0_12
  have c3_1_13 := keepc bo13 c3_1_12
  have l3_13 := Nat.lt_of_lt_of_le l3_12 bo13.size
  have f3_13 := keepf bo13 l3_12 f3_12
  have bl13 : Below w.heap.size w w13 := bl12.trans (bo13.mono bl12.size)
  clear c1_0_12 c1_1_12 l1_12 f1_12 c2_0_12 c2_1_12 l2_12 f2_12 c3_0_12 c3_1_12 l3_12 f3_12 bl12 hb13 bo13 E12
  have hgg : (g == g) = true := by simp
  go_wp2
  go_ret
  exact ⟨rfl, bl13⟩

set_option maxRecDepth 20000 in
set_option maxHeartbeats 8000000 in
theorem one_nn (s n a b : Int) (l g : List UInt8) (A : Option Addr) (c : Nat) (w : World) (hE : Env w) (hA : Shows cel w w.heap.size A l) (hg : g.length ≤ 140737488355328) (hf : Fits s n a b) (ha1 : a ≤ 9223372036854775807) (hV : Is (vld a b) true) (k : List UInt8) (hk : Is (prt a b) k) (hk2 : k.length ≤ 140737488355328) (hk3 : Is (prs k) (some (a, b))) (j : List UInt8) (hj : Is (lb a b) j) (hj2 : Gets j a b 0) (hG : Gets l 0 0 60) (hP : Is (prs g) none) :
    Calls Tryd.prog 11 #[.agg #[.int .i64 s, .int .i64 n], .slice A l.length c, .string ⟨g.toArray⟩] w fun e w' => e = .returned (.bool true) ∧ Below w.heap.size w w' := by
  go_enter Tryd.func11, Tryd.ntmps11

  have E0 := hE.on ((Below.refl _ w).alloc (by exact Nat.le_refl _) (.cells #[.int .i64 s, .int .i64 n] 23))
  go_wp2_with fail
  refine (known_any _ E0).mono ?_
  rintro e w1 ⟨rfl, hb1⟩
  have bo1 : Below w.heap.size w w1 := ((Below.refl _ w).alloc (Nat.le_refl _) _).trans (hb1.mono (by simp <;> omega))
  have c1_0 := keepc hb1 (b := w.heap.size) (o := 0) (v := .int .i64 s) (by go_simp)
  have c1_1 := keepc hb1 (b := w.heap.size) (o := 1) (v := .int .i64 n) (by go_simp)
  have l1 : w.heap.size < w1.heap.size := by
    have := hb1.size
    try simp at this
    omega
  have f1 := keepf hb1 (b := w.heap.size) (by simp <;> omega) (fun o => by go_simp)
  have bl1 : Below w.heap.size w w1 := (Below.refl _ _).trans (bo1.mono (Nat.le_refl _))
  clear hb1 bo1 E0
  go_wp2_with fail
  refine (fit_as hf _).mono ?_
  rintro e w2 ⟨rfl, hb2⟩
  have bo2 := hb2
  have c1_0_2 := keepc bo2 c1_0
  have c1_1_2 := keepc bo2 c1_1
  have l1_2 := Nat.lt_of_lt_of_le l1 bo2.size
  have f1_2 := keepf bo2 l1 f1
  have bl2 : Below w.heap.size w w2 := bl1.trans (bo2.mono bl1.size)
  clear c1_0 c1_1 l1 f1 bl1 hb2 bo2
  go_wp2_with fail
  refine (valid_as ha1 hV _).mono ?_
  rintro e w3 ⟨rfl, hb3⟩
  have c1_0_3 := keepc hb3 (b := w.heap.size) (o := 0) (v := .int .i64 a) (by go_simp)
  have c1_1_3 := keepc hb3 (b := w.heap.size) (o := 1) (v := .int .i64 b) (by go_simp)
  have l1_3 : w.heap.size < w3.heap.size := by
    have := hb3.size
    try simp at this
    omega
  have f1_3 := keepf hb3 (b := w.heap.size) (by simp <;> omega) (fun o => by go_simp)
  have bl3 : Below w.heap.size w w3 := (((bl2).setCell (p := ⟨w.heap.size, 0, none⟩) (by simp <;> omega) (.int .i64 a)).setCell (p := ⟨w.heap.size, 1, none⟩) (by simp <;> omega) (.int .i64 b)).trans (hb3.mono (by have := bl2.size; simp <;> omega))
  clear c1_0_2 c1_1_2 l1_2 f1_2 bl2 hb3
  go_wp2_with fail
  refine (put_as hj _ ha1).mono ?_
  rintro e w4 ⟨A1, c1, rfl, hs1, hb4⟩
  have bo4 := hb4
  have c1_0_4 := keepc bo4 c1_0_3
  have c1_1_4 := keepc bo4 c1_1_3
  have l1_4 := Nat.lt_of_lt_of_le l1_3 bo4.size
  have f1_4 := keepf bo4 l1_3 f1_3
  have bl4 : Below w.heap.size w w4 := bl3.trans (bo4.mono bl3.size)
  clear c1_0_3 c1_1_3 l1_3 f1_3 bl3 hb4 bo4
  go_wp2_with fail
  refine (get_as hj2 _ _ _ hs1).mono ?_
  rintro e w5 ⟨rfl, hb5⟩
  have bo5 := hb5
  have c1_0_5 := keepc bo5 c1_0_4
  have c1_1_5 := keepc bo5 c1_1_4
  have l1_5 := Nat.lt_of_lt_of_le l1_4 bo5.size
  have f1_5 := keepf bo5 l1_4 f1_4
  have hs1_5 := hs1.on bo5
  have bl5 : Below w.heap.size w w5 := bl4.trans (bo5.mono bl4.size)
  clear c1_0_4 c1_1_4 l1_4 f1_4 hs1 bl4 hb5 bo5
  have le1 : w.heap.size ≤ w5.heap.size := by
    have := bl5.size
    omega
  have ne2 : ¬ w.heap.size = w5.heap.size := by
    have := l1_5
    omega
  have nr2 : ¬ w5.heap.size = w.heap.size := by
    have := l1_5
    omega
  have E5 := hE.on ((bl5).alloc (by exact bl5.size) (.cells #[.int .i64 a, .int .i64 b] 23))
  go_wp2_with fail
  refine (print_as hk _ ha1 E5).mono ?_
  rintro e w6 ⟨rfl, hb6⟩
  have bo6 : Below w5.heap.size w5 w6 := ((Below.refl _ w5).alloc (Nat.le_refl _) _).trans (hb6.mono (by simp <;> omega))
  have c1_0_6 := keepc bo6 c1_0_5
  have c1_1_6 := keepc bo6 c1_1_5
  have l1_6 := Nat.lt_of_lt_of_le l1_5 bo6.size
  have f1_6 := keepf bo6 l1_5 f1_5
  have c2_0 := keepc hb6 (b := w5.heap.size) (o := 0) (v := .int .i64 a) (by go_simp)
  have c2_1 := keepc hb6 (b := w5.heap.size) (o := 1) (v := .int .i64 b) (by go_simp)
  have l2 : w5.heap.size < w6.heap.size := by
    have := hb6.size
    try simp at this
    omega
  have f2 := keepf hb6 (b := w5.heap.size) (by simp <;> omega) (fun o => by go_simp)
  have bl6 : Below w.heap.size w w6 := bl5.trans (bo6.mono bl5.size)
  clear c1_0_5 c1_1_5 l1_5 f1_5 bl5 hb6 bo6 E5
  have E6 := hE.on (bl6)
  go_wp2_with fail
  refine (parse_as hk3 _ hk2 E6).mono ?_
  rintro e w7 ⟨rfl, hb7⟩
  rw [show ofPrs (some (a, b)) = .tuple #[.agg #[.int .i64 a, .int .i64 b], .int .i64 0] from rfl]
  have bo7 := hb7
  have c1_0_7 := keepc bo7 c1_0_6
  have c1_1_7 := keepc bo7 c1_1_6
  have l1_7 := Nat.lt_of_lt_of_le l1_6 bo7.size
  have f1_7 := keepf bo7 l1_6 f1_6
  have c2_0_7 := keepc bo7 c2_0
  have c2_1_7 := keepc bo7 c2_1
  have l2_7 := Nat.lt_of_lt_of_le l2 bo7.size
  have f2_7 := keepf bo7 l2 f2
  have bl7 : Below w.heap.size w w7 := bl6.trans (bo7.mono bl6.size)
  clear c1_0_6 c1_1_6 l1_6 f1_6 c2_0 c2_1 l2 f2 bl6 hb7 bo7 E6
  have le3 : w.heap.size ≤ w7.heap.size := by
    have := bl7.size
    omega
  have ne4 : ¬ w.heap.size = w7.heap.size := by
    have := l1_7
    omega
  have nr4 : ¬ w7.heap.size = w.heap.size := by
    have := l1_7
    omega
  have ne5 : ¬ w5.heap.size = w7.heap.size := by
    have := l2_7
    omega
  have nr5 : ¬ w7.heap.size = w5.heap.size := by
    have := l2_7
    omega
  go_wp2_with fail
  refine (sam_k a b _).mono ?_
  rintro e w8 ⟨rfl, hb8⟩
  have bo8 : Below w7.heap.size w7 w8 := ((Below.refl _ w7).alloc (Nat.le_refl _) _).trans (hb8.mono (by simp <;> omega))
  have c1_0_8 := keepc bo8 c1_0_7
  have c1_1_8 := keepc bo8 c1_1_7
  have l1_8 := Nat.lt_of_lt_of_le l1_7 bo8.size
  have f1_8 := keepf bo8 l1_7 f1_7
  have c2_0_8 := keepc bo8 c2_0_7
  have c2_1_8 := keepc bo8 c2_1_7
  have l2_8 := Nat.lt_of_lt_of_le l2_7 bo8.size
  have f2_8 := keepf bo8 l2_7 f2_7
  have c3_0 := keepc hb8 (b := w7.heap.size) (o := 0) (v := .int .i64 a) (by go_simp)
  have c3_1 := keepc hb8 (b := w7.heap.size) (o := 1) (v := .int .i64 b) (by go_simp)
  have l3 : w7.heap.size < w8.heap.size := by
    have := hb8.size
    try simp at this
    omega
  have f3 := keepf hb8 (b := w7.heap.size) (by simp <;> omega) (fun o => by go_simp)
  have bl8 : Below w.heap.size w w8 := bl7.trans (bo8.mono bl7.size)
  clear c1_0_7 c1_1_7 l1_7 f1_7 c2_0_7 c2_1_7 l2_7 f2_7 bl7 hb8 bo8
  go_wp2_with fail
  refine (sam_k a b _).mono ?_
  rintro e w9 ⟨rfl, hb9⟩
  have bo9 := hb9
  have c1_0_9 := keepc bo9 c1_0_8
  have c1_1_9 := keepc bo9 c1_1_8
  have l1_9 := Nat.lt_of_lt_of_le l1_8 bo9.size
  have f1_9 := keepf bo9 l1_8 f1_8
  have c2_0_9 := keepc bo9 c2_0_8
  have c2_1_9 := keepc bo9 c2_1_8
  have l2_9 := Nat.lt_of_lt_of_le l2_8 bo9.size
  have f2_9 := keepf bo9 l2_8 f2_8
  have c3_0_9 := keepc bo9 c3_0
  have c3_1_9 := keepc bo9 c3_1
  have l3_9 := Nat.lt_of_lt_of_le l3 bo9.size
  have f3_9 := keepf bo9 l3 f3
  have bl9 : Below w.heap.size w w9 := bl8.trans (bo9.mono bl8.size)
  clear c1_0_8 c1_1_8 l1_8 f1_8 c2_0_8 c2_1_8 l2_8 f2_8 c3_0 c3_1 l3 f3 bl8 hb9 bo9
  have hA2 := hA.on bl9
  go_wp2_with (go_at_call 29; refine (num_any _ _).mono ?_; rintro e w' ⟨rfl, rfl⟩)
  refine (get_as hG _ _ _ hA2).mono ?_
  rintro e w10 ⟨rfl, hb10⟩
  have bo10 := hb10
  have c1_0_10 := keepc bo10 c1_0_9
  have c1_1_10 := keepc bo10 c1_1_9
  have l1_10 := Nat.lt_of_lt_of_le l1_9 bo10.size
  have f1_10 := keepf bo10 l1_9 f1_9
  have c2_0_10 := keepc bo10 c2_0_9
  have c2_1_10 := keepc bo10 c2_1_9
  have l2_10 := Nat.lt_of_lt_of_le l2_9 bo10.size
  have f2_10 := keepf bo10 l2_9 f2_9
  have c3_0_10 := keepc bo10 c3_0_9
  have c3_1_10 := keepc bo10 c3_1_9
  have l3_10 := Nat.lt_of_lt_of_le l3_9 bo10.size
  have f3_10 := keepf bo10 l3_9 f3_9
  have bl10 : Below w.heap.size w w10 := bl9.trans (bo10.mono bl9.size)
  clear c1_0_9 c1_1_9 l1_9 f1_9 c2_0_9 c2_1_9 l2_9 f2_9 c3_0_9 c3_1_9 l3_9 f3_9 bl9 hb10 bo10 hA2
  have E10 := hE.on (((bl10).setCell (p := ⟨w5.heap.size, 0, none⟩) (by simp <;> omega) (.int .i64 0)).setCell (p := ⟨w5.heap.size, 1, none⟩) (by simp <;> omega) (.int .i64 0))
  go_wp2_with (go_at_call 29; refine (num_any _ _).mono ?_; rintro e w' ⟨rfl, rfl⟩)
  refine (parse_as hP _ hg E10).mono ?_
  rintro e w11 ⟨rfl, hb11⟩
  rw [show ofPrs none = .tuple #[.agg #[.int .i64 0, .int .i64 0], .int .i64 60] from rfl]
  have c1_0_11 := keepc hb11 (b := w.heap.size) (o := 0) (v := .int .i64 a) (by go_simp)
  have c1_1_11 := keepc hb11 (b := w.heap.size) (o := 1) (v := .int .i64 b) (by go_simp)
  have l1_11 : w.heap.size < w11.heap.size := by
    have := hb11.size
    try simp at this
    omega
  have f1_11 := keepf hb11 (b := w.heap.size) (by simp <;> omega) (fun o => by go_simp)
  have c2_0_11 := keepc hb11 (b := w5.heap.size) (o := 0) (v := .int .i64 0) (by go_simp)
  have c2_1_11 := keepc hb11 (b := w5.heap.size) (o := 1) (v := .int .i64 0) (by go_simp)
  have l2_11 : w5.heap.size < w11.heap.size := by
    have := hb11.size
    try simp at this
    omega
  have f2_11 := keepf hb11 (b := w5.heap.size) (by simp <;> omega) (fun o => by go_simp)
  have c3_0_11 := keepc hb11 (b := w7.heap.size) (o := 0) (v := .int .i64 a) (by go_simp)
  have c3_1_11 := keepc hb11 (b := w7.heap.size) (o := 1) (v := .int .i64 b) (by go_simp)
  have l3_11 : w7.heap.size < w11.heap.size := by
    have := hb11.size
    try simp at this
    omega
  have f3_11 := keepf hb11 (b := w7.heap.size) (by simp <;> omega) (fun o => by go_simp)
  have bl11 : Below w.heap.size w w11 := (((bl10).setCell (p := ⟨w5.heap.size, 0, none⟩) (by simp <;> omega) (.int .i64 0)).setCell (p := ⟨w5.heap.size, 1, none⟩) (by simp <;> omega) (.int .i64 0)).trans (hb11.mono (by have := bl10.size; simp <;> omega))
  clear c1_0_10 c1_1_10 l1_10 f1_10 c2_0_10 c2_1_10 l2_10 f2_10 c3_0_10 c3_1_10 l3_10 f3_10 bl10 hb11 E10
  go_wp2_with (go_at_call 29; refine (num_any _ _).mono ?_; rintro e w' ⟨rfl, rfl⟩)
  go_ret
  exact ⟨rfl, (((bl11).setCell (p := ⟨w7.heap.size, 0, none⟩) (by simp <;> omega) (.int .i64 0)).setCell (p := ⟨w7.heap.size, 1, none⟩) (by simp <;> omega) (.int .i64 0))⟩

theorem stampOneForm_law (s n : Int) (l : List UInt8) (t : ByteArray) (A : Option Addr) (c : Nat) (w : World) (hE : Env w) (hA : Shows cel w w.heap.size A l) (ht : t.size ≤ 140737488355328)
    (hs1 : -9223372036854775808 ≤ s) (hs2 : s ≤ 9223372036854775807) :
    Calls Tryd.prog 11 #[.agg #[.int .i64 s, .int .i64 n], .slice A l.length c, .string t] w fun e w' => e = .returned (.bool true) ∧ Below w.heap.size w w' := by
  obtain ⟨a, b, hf⟩ : ∃ a b, Fits s n a b := ⟨_, _, hs1, hs2, rfl, rfl⟩
  obtain ⟨ha0, ha1, hb0, hb1⟩ := hf.bds
  have hv : vld a b = true := by rw [vld_iff]; omega
  have hk2 := prt_len hv ha1
  have hk3 := prs_prt hv ha1
  have hj2 := gets_lb hv ha1
  obtain ⟨g, rfl⟩ : ∃ g : List UInt8, t = ⟨g.toArray⟩ := ⟨t.data.toList, by simp⟩
  have hg : g.length ≤ 140737488355328 := ht
  cases hP : prs g with
  | none =>
    cases ho : getOk l with
    | false => exact one_nn s n a b l g A c w hE hA hg hf ha1 hv _ rfl (by omega) hk3 _ rfl hj2 ⟨if_neg (by simp [ho]), if_neg (by simp [ho]), if_neg (by simp [ho])⟩ hP
    | true =>
      obtain ⟨g1, g2, g3⟩ := lb_gets ho
      have hl : l.length = 12 := ((getOk_iff l).1 ho).1
      exact one_yn s n a b _ _ l g A c w hE hA hg hf ha1 hv _ rfl (by omega) hk3 _ rfl hj2 ⟨rfl, rfl, if_pos ho⟩ g2 g3 g1 (by omega) hP
  | some o =>
    obtain ⟨u, v⟩ := o
    obtain ⟨p1, p2, p3⟩ := prs_some hP
    cases ho : getOk l with
    | false => exact one_ny s n a b u v l g A c w hE hA hg hf ha1 hv _ rfl (by omega) hk3 _ rfl hj2 ⟨if_neg (by simp [ho]), if_neg (by simp [ho]), if_neg (by simp [ho])⟩ p2 p3 p1 hP
    | true =>
      obtain ⟨g1, g2, g3⟩ := lb_gets ho
      have hl : l.length = 12 := ((getOk_iff l).1 ho).1
      exact one_yy s n a b _ _ u v l g A c w hE hA hg hf ha1 hv _ rfl (by omega) hk3 _ rfl hj2 ⟨rfl, rfl, if_pos ho⟩ g2 g3 g1 (by omega) p2 p3 p1 hP

end Go.Proofs.YtpjgebbmbiohbaaDoor.St
