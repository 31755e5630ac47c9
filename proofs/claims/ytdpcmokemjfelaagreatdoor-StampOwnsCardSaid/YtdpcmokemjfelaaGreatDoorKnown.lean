/- Contract: 'known' of the statements on stamps returns true. -/
import Derived.Test.YtdpcmokemjfelaaGreatDoorStampB
import Derived.Test.YtdpcmokemjfelaaGreatDoorStampD
import Derived.Test.YtdpcmokemjfelaaGreatDoorStampE
import Derived.Test.YtdpcmokemjfelaaGreatDoorStampJ
namespace Go.Proofs.YtdpcmokemjfelaaGreatDoor.St
open Go.RowKit Go.Proofs.YtdpcmokemjfelaaGreatDoor.Wd Go.Proofs.YtdpcmokemjfelaaGreatDoor.Pl Go.Proofs.YtdpcmokemjfelaaGreatDoor.Px Go.Proofs.YtdpcmokemjfelaaGreatDoor.En Go.Proofs.YtdpcmokemjfelaaGreatDoor.By

def txt1 : List UInt8 := [49, 46, 48, 48, 48, 48, 48, 48, 48, 48, 50]
theorem dec_small (u : Nat) (h : u < 10) : Lib.decDigits u = [UInt8.ofNat (48 + u)] := by rw [Lib.decDigits, dif_pos h]
theorem prt_12 : prt 1 2 = txt1 := by
  rw [prt_of _ _ (by decide), show ((1 : Int).toNat) = 1 from rfl, show ((2 : Int).toNat) = 2 from rfl, dec_small 1 (by omega), dec_small 2 (by omega)]
  rfl
theorem prs_12 : prs txt1 = some (1, 2) := by
  rw [← prt_12]; exact prs_prt (by decide) (by omega)
theorem prs_bad12 : prs [49, 46, 50] = none := prs_first (by simp)
theorem be_12 : be 8 (1 : Int).toNat ++ be 4 (2 : Int).toNat = l12 := by decide
theorem get_12 : getS l12 = 1 ∧ getN l12 = 2 ∧ getE l12 = 0 := by decide

theorem parse_k1 (w : World) (hE : Env w) : Calls Tryz.prog 14 #[.string ⟨#[49, 46, 48, 48, 48, 48, 48, 48, 48, 48, 50]⟩] w fun e w' => e = .returned (.tuple #[.agg #[.int .i64 1, .int .i64 2], .int .i64 0]) ∧ Below w.heap.size w w' := by
  refine (parse_any ⟨#[49, 46, 48, 48, 48, 48, 48, 48, 48, 48, 50]⟩ w (by decide) hE).mono ?_
  rintro e w' ⟨rfl, hb⟩
  refine ⟨?_, hb⟩
  rw [show (⟨#[49, 46, 48, 48, 48, 48, 48, 48, 48, 48, 50]⟩ : ByteArray).data.toList = txt1 from rfl, prs_12]
  rfl
theorem parse_k2 (w : World) (hE : Env w) : Calls Tryz.prog 14 #[.string ⟨#[49, 46, 50]⟩] w fun e w' => e = .returned (.tuple #[.agg #[.int .i64 0, .int .i64 0], .int .i64 60]) ∧ Below w.heap.size w w' := by
  refine (parse_any ⟨#[49, 46, 50]⟩ w (by decide) hE).mono ?_
  rintro e w' ⟨rfl, hb⟩
  refine ⟨?_, hb⟩
  rw [show (⟨#[49, 46, 50]⟩ : ByteArray).data.toList = [49, 46, 50] from rfl, prs_bad12]
  rfl
theorem put_12 (w : World) : Calls Tryz.prog 5 #[.agg #[.int .i64 1, .int .i64 2]] w fun e w' => ∃ A c, e = .returned (.slice A l12.length c) ∧ Shows cel w' w'.heap.size A l12 ∧ Below w.heap.size w w' := by
  refine (put_yes 1 2 w (by omega) (by omega) (by omega) (by omega)).mono ?_
  rintro e w' ⟨v, rfl, hown, hb⟩
  rw [be_12] at hown
  obtain ⟨A, c, rfl⟩ := own_slice hown
  exact ⟨A, c, rfl, Shows.of_own (base := w.heap.size) (e := 5) hown, hb⟩
theorem print_12 (w : World) (hE : Env w) : Calls Tryz.prog 10 #[.agg #[.int .i64 1, .int .i64 2]] w fun e w' => e = .returned (.string ⟨txt1.toArray⟩) ∧ Below w.heap.size w w' := by
  refine (print_yes 1 2 w (by omega) (by omega) (by omega) (by omega) hE).mono ?_
  rintro e w' ⟨rfl, hb⟩
  rw [prt_12]
  exact ⟨rfl, hb⟩
theorem get_k (A : Option Addr) (c : Nat) (w : World) (h : Shows cel w w.heap.size A l12) : Calls Tryz.prog 12 #[.slice A l12.length c] w fun e w' => e = .returned (.tuple #[.agg #[.int .i64 1, .int .i64 2], .int .i64 0]) ∧ Below w.heap.size w w' := by
  refine (get_any l12 A c w h).mono ?_
  rintro e w' ⟨rfl, hb⟩
  rw [get_12.1, get_12.2.1, get_12.2.2]
  exact ⟨rfl, hb⟩
theorem same_k (A B : Option Addr) (c d : Nat) (w : World) (h : Shows cel w w.heap.size A l12) (h' : Shows cel w w.heap.size B l12) : Calls Tryz.prog 6 #[.slice A l12.length c, .slice B l12.length d] w fun e w' => e = .returned (.bool true) ∧ Below w.heap.size w w' := by
  refine (By.same_any l12 l12 A B c d w (by decide) h h').mono ?_
  rintro e w' ⟨rfl, hb⟩
  exact ⟨by simp, hb⟩
theorem sam_k (s n : Int) (w : World) : Calls Tryz.prog 15 #[.agg #[.int .i64 s, .int .i64 n], .agg #[.int .i64 s, .int .i64 n]] w fun e w' => e = .returned (.bool true) ∧ Below w.heap.size w w' := by
  refine (St.same_any s n s n w).mono ?_
  rintro e w' ⟨rfl, hb⟩
  exact ⟨by simp [sam], hb⟩
theorem less_k (w : World) : Calls Tryz.prog 16 #[.agg #[.int .i64 1, .int .i64 2], .agg #[.int .i64 1, .int .i64 3]] w fun e w' => e = .returned (.bool true) ∧ Below w.heap.size w w' := by
  refine (St.less_any 1 2 1 3 w).mono ?_
  rintro e w' ⟨rfl, hb⟩
  exact ⟨by simp [lss], hb⟩

set_option maxHeartbeats 4000000 in
theorem known_any (w : World) (hE : Env w) : Calls Tryz.prog 4 #[] w fun e w' => e = .returned (.bool true) ∧ Below w.heap.size w w' := by
  have htxt : (txt1 == [49, 46, 48, 48, 48, 48, 48, 48, 48, 48, 50]) = true := by decide
  go_enter Tryz.func4, Tryz.ntmps4
  go_wp2_with fail
  refine (put_12 _).mono ?_
  rintro e w1 ⟨A1, k1, rfl, hs1, hb1⟩
  have c1_0 := keepc hb1 (b := w.heap.size) (o := 0) (v := .int .i64 1) (by go_simp)
  have c1_1 := keepc hb1 (b := w.heap.size) (o := 1) (v := .int .i64 2) (by go_simp)
  have l1_0 : w.heap.size < w1.heap.size := by
    have := hb1.size
    try simp at this
    omega
  have bl1 : Below w.heap.size w w1 := ((Below.refl _ w).alloc (Nat.le_refl _) _).trans (hb1.mono (by simp <;> omega))
  have s1_0 := hs1
  clear hb1 hs1
  go_wp2_with fail
  refine (print_12 _ (hE.on bl1)).mono ?_
  rintro e w2 ⟨rfl, hb2⟩
  have c2_0 := keepc hb2 (b := w.heap.size) (o := 0) (v := .int .i64 1) (by go_simp)
  have c2_1 := keepc hb2 (b := w.heap.size) (o := 1) (v := .int .i64 2) (by go_simp)
  have l2_0 : w.heap.size < w2.heap.size := by
    have := hb2.size
    try simp at this
    omega
  have bl2 : Below w.heap.size w w2 := bl1.trans (hb2.mono bl1.size)
  have blo2 := hb2
  have s2_0 := s1_0.on blo2
  clear c1_0 c1_1 l1_0 s1_0 bl1 blo2 hb2
  go_wp2_with fail
  refine (next_on 1 2 _ (by omega) (by omega) (by omega) (by omega)).mono ?_
  rintro e w3 ⟨rfl, hb3⟩
  have c3_0 := keepc hb3 (b := w.heap.size) (o := 0) (v := .int .i64 1) (by go_simp)
  have c3_1 := keepc hb3 (b := w.heap.size) (o := 1) (v := .int .i64 2) (by go_simp)
  have l3_0 : w.heap.size < w3.heap.size := by
    have := hb3.size
    try simp at this
    omega
  have bl3 : Below w.heap.size w w3 := bl2.trans (hb3.mono bl2.size)
  have blo3 := hb3
  have s3_0 := s2_0.on blo3
  clear c2_0 c2_1 l2_0 s2_0 bl2 blo3 hb3
  go_wp2_with fail
  refine (twelve_any _).mono ?_
  rintro e w4 ⟨A4, k4, rfl, hs4, hb4⟩
  have c4_0 := keepc hb4 (b := w.heap.size) (o := 0) (v := .int .i64 1) (by go_simp)
  have c4_1 := keepc hb4 (b := w.heap.size) (o := 1) (v := .int .i64 2) (by go_simp)
  have l4_0 : w.heap.size < w4.heap.size := by
    have := hb4.size
    try simp at this
    omega
  have c4_2 := keepc hb4 (b := w3.heap.size) (o := 0) (v := .int .i64 1) (by go_simp)
  have c4_3 := keepc hb4 (b := w3.heap.size) (o := 1) (v := .int .i64 3) (by go_simp)
  have l4_1 : w3.heap.size < w4.heap.size := by
    have := hb4.size
    try simp at this
    omega
  have bl4 : Below w.heap.size w w4 := (bl3.alloc bl3.size _).trans (hb4.mono (by simp <;> omega))
  have blo4 : Below w3.heap.size w3 w4 := (one w3 _).trans (hb4.mono (by simp <;> omega))
  have s4_0 := s3_0.on blo4
  have s4_1 := hs4
  clear c3_0 c3_1 l3_0 s3_0 bl3 blo4 hb4 hs4
  go_wp2_with fail
  refine (get_k _ _ _ s4_1).mono ?_
  rintro e w5 ⟨rfl, hb5⟩
  have c5_0 := keepc hb5 (b := w.heap.size) (o := 0) (v := .int .i64 1) (by go_simp)
  have c5_1 := keepc hb5 (b := w.heap.size) (o := 1) (v := .int .i64 2) (by go_simp)
  have l5_0 : w.heap.size < w5.heap.size := by
    have := hb5.size
    try simp at this
    omega
  have c5_2 := keepc hb5 (b := w3.heap.size) (o := 0) (v := .int .i64 1) (by go_simp)
  have c5_3 := keepc hb5 (b := w3.heap.size) (o := 1) (v := .int .i64 3) (by go_simp)
  have l5_1 : w3.heap.size < w5.heap.size := by
    have := hb5.size
    try simp at this
    omega
  have bl5 : Below w.heap.size w w5 := bl4.trans (hb5.mono bl4.size)
  have blo5 := hb5
  have s5_0 := s4_0.on blo5
  have s5_1 := s4_1.on blo5
  clear c4_0 c4_1 l4_0 c4_2 c4_3 l4_1 s4_0 s4_1 bl4 blo5 hb5
  go_wp2_with fail
  refine (parse_k1 _ (hE.on (bl5.alloc bl5.size _))).mono ?_
  rintro e w6 ⟨rfl, hb6⟩
  have c6_0 := keepc hb6 (b := w.heap.size) (o := 0) (v := .int .i64 1) (by go_simp)
  have c6_1 := keepc hb6 (b := w.heap.size) (o := 1) (v := .int .i64 2) (by go_simp)
  have l6_0 : w.heap.size < w6.heap.size := by
    have := hb6.size
    try simp at this
    omega
  have c6_2 := keepc hb6 (b := w3.heap.size) (o := 0) (v := .int .i64 1) (by go_simp)
  have c6_3 := keepc hb6 (b := w3.heap.size) (o := 1) (v := .int .i64 3) (by go_simp)
  have l6_1 : w3.heap.size < w6.heap.size := by
    have := hb6.size
    try simp at this
    omega
  have c6_4 := keepc hb6 (b := w5.heap.size) (o := 0) (v := .int .i64 1) (by go_simp)
  have c6_5 := keepc hb6 (b := w5.heap.size) (o := 1) (v := .int .i64 2) (by go_simp)
  have l6_2 : w5.heap.size < w6.heap.size := by
    have := hb6.size
    try simp at this
    omega
  have bl6 : Below w.heap.size w w6 := (bl5.alloc bl5.size _).trans (hb6.mono (by simp <;> omega))
  have blo6 : Below w5.heap.size w5 w6 := (one w5 _).trans (hb6.mono (by simp <;> omega))
  have s6_0 := s5_0.on blo6
  have s6_1 := s5_1.on blo6
  clear c5_0 c5_1 l5_0 c5_2 c5_3 l5_1 s5_0 s5_1 bl5 blo6 hb6
  go_wp2_with fail
  refine (parse_k2 _ (hE.on (bl6.alloc bl6.size _))).mono ?_
  rintro e w7 ⟨rfl, hb7⟩
  have c7_0 := keepc hb7 (b := w.heap.size) (o := 0) (v := .int .i64 1) (by go_simp)
  have c7_1 := keepc hb7 (b := w.heap.size) (o := 1) (v := .int .i64 2) (by go_simp)
  have l7_0 : w.heap.size < w7.heap.size := by
    have := hb7.size
    try simp at this
    omega
  have c7_2 := keepc hb7 (b := w3.heap.size) (o := 0) (v := .int .i64 1) (by go_simp)
  have c7_3 := keepc hb7 (b := w3.heap.size) (o := 1) (v := .int .i64 3) (by go_simp)
  have l7_1 : w3.heap.size < w7.heap.size := by
    have := hb7.size
    try simp at this
    omega
  have c7_4 := keepc hb7 (b := w5.heap.size) (o := 0) (v := .int .i64 1) (by go_simp)
  have c7_5 := keepc hb7 (b := w5.heap.size) (o := 1) (v := .int .i64 2) (by go_simp)
  have l7_2 : w5.heap.size < w7.heap.size := by
    have := hb7.size
    try simp at this
    omega
  have c7_6 := keepc hb7 (b := w6.heap.size) (o := 0) (v := .int .i64 1) (by go_simp)
  have c7_7 := keepc hb7 (b := w6.heap.size) (o := 1) (v := .int .i64 2) (by go_simp)
  have l7_3 : w6.heap.size < w7.heap.size := by
    have := hb7.size
    try simp at this
    omega
  have bl7 : Below w.heap.size w w7 := (bl6.alloc bl6.size _).trans (hb7.mono (by simp <;> omega))
  have blo7 : Below w6.heap.size w6 w7 := (one w6 _).trans (hb7.mono (by simp <;> omega))
  have s7_0 := s6_0.on blo7
  have s7_1 := s6_1.on blo7
  clear c6_0 c6_1 l6_0 c6_2 c6_3 l6_1 c6_4 c6_5 l6_2 s6_0 s6_1 bl6 blo7 hb7
  go_wp2_with fail
  refine (twelve_any _).mono ?_
  rintro e w8 ⟨A8, k8, rfl, hs8, hb8⟩
  have c8_0 := keepc hb8 (b := w.heap.size) (o := 0) (v := .int .i64 1) (by go_simp)
  have c8_1 := keepc hb8 (b := w.heap.size) (o := 1) (v := .int .i64 2) (by go_simp)
  have l8_0 : w.heap.size < w8.heap.size := by
    have := hb8.size
    try simp at this
    omega
  have c8_2 := keepc hb8 (b := w3.heap.size) (o := 0) (v := .int .i64 1) (by go_simp)
  have c8_3 := keepc hb8 (b := w3.heap.size) (o := 1) (v := .int .i64 3) (by go_simp)
  have l8_1 : w3.heap.size < w8.heap.size := by
    have := hb8.size
    try simp at this
    omega
  have c8_4 := keepc hb8 (b := w5.heap.size) (o := 0) (v := .int .i64 1) (by go_simp)
  have c8_5 := keepc hb8 (b := w5.heap.size) (o := 1) (v := .int .i64 2) (by go_simp)
  have l8_2 : w5.heap.size < w8.heap.size := by
    have := hb8.size
    try simp at this
    omega
  have c8_6 := keepc hb8 (b := w6.heap.size) (o := 0) (v := .int .i64 1) (by go_simp)
  have c8_7 := keepc hb8 (b := w6.heap.size) (o := 1) (v := .int .i64 2) (by go_simp)
  have l8_3 : w6.heap.size < w8.heap.size := by
    have := hb8.size
    try simp at this
    omega
  have c8_8 := keepc hb8 (b := w7.heap.size) (o := 0) (v := .int .i64 0) (by go_simp)
  have c8_9 := keepc hb8 (b := w7.heap.size) (o := 1) (v := .int .i64 0) (by go_simp)
  have l8_4 : w7.heap.size < w8.heap.size := by
    have := hb8.size
    try simp at this
    omega
  have bl8 : Below w.heap.size w w8 := (bl7.alloc bl7.size _).trans (hb8.mono (by simp <;> omega))
  have blo8 : Below w7.heap.size w7 w8 := (one w7 _).trans (hb8.mono (by simp <;> omega))
  have s8_0 := s7_0.on blo8
  have s8_1 := s7_1.on blo8
  have s8_2 := hs8
  clear c7_0 c7_1 l7_0 c7_2 c7_3 l7_1 c7_4 c7_5 l7_2 c7_6 c7_7 l7_3 s7_0 s7_1 bl7 blo8 hb8 hs8
  go_wp2_with fail
  refine (same_k _ _ _ _ _ s8_0 s8_2).mono ?_
  rintro e w9 ⟨rfl, hb9⟩
  have c9_0 := keepc hb9 (b := w.heap.size) (o := 0) (v := .int .i64 1) (by go_simp)
  have c9_1 := keepc hb9 (b := w.heap.size) (o := 1) (v := .int .i64 2) (by go_simp)
  have l9_0 : w.heap.size < w9.heap.size := by
    have := hb9.size
    try simp at this
    omega
  have c9_2 := keepc hb9 (b := w3.heap.size) (o := 0) (v := .int .i64 1) (by go_simp)
  have c9_3 := keepc hb9 (b := w3.heap.size) (o := 1) (v := .int .i64 3) (by go_simp)
  have l9_1 : w3.heap.size < w9.heap.size := by
    have := hb9.size
    try simp at this
    omega
  have c9_4 := keepc hb9 (b := w5.heap.size) (o := 0) (v := .int .i64 1) (by go_simp)
  have c9_5 := keepc hb9 (b := w5.heap.size) (o := 1) (v := .int .i64 2) (by go_simp)
  have l9_2 : w5.heap.size < w9.heap.size := by
    have := hb9.size
    try simp at this
    omega
  have c9_6 := keepc hb9 (b := w6.heap.size) (o := 0) (v := .int .i64 1) (by go_simp)
  have c9_7 := keepc hb9 (b := w6.heap.size) (o := 1) (v := .int .i64 2) (by go_simp)
  have l9_3 : w6.heap.size < w9.heap.size := by
    have := hb9.size
    try simp at this
    omega
  have c9_8 := keepc hb9 (b := w7.heap.size) (o := 0) (v := .int .i64 0) (by go_simp)
  have c9_9 := keepc hb9 (b := w7.heap.size) (o := 1) (v := .int .i64 0) (by go_simp)
  have l9_4 : w7.heap.size < w9.heap.size := by
    have := hb9.size
    try simp at this
    omega
  have bl9 : Below w.heap.size w w9 := bl8.trans (hb9.mono bl8.size)
  have blo9 := hb9
  have s9_0 := s8_0.on blo9
  have s9_1 := s8_1.on blo9
  have s9_2 := s8_2.on blo9
  clear c8_0 c8_1 l8_0 c8_2 c8_3 l8_1 c8_4 c8_5 l8_2 c8_6 c8_7 l8_3 c8_8 c8_9 l8_4 s8_0 s8_1 s8_2 bl8 blo9 hb9
  go_wp2_with fail
  refine (sam_k 1 2 _).mono ?_
  rintro e w10 ⟨rfl, hb10⟩
  have c10_0 := keepc hb10 (b := w.heap.size) (o := 0) (v := .int .i64 1) (by go_simp)
  have c10_1 := keepc hb10 (b := w.heap.size) (o := 1) (v := .int .i64 2) (by go_simp)
  have l10_0 : w.heap.size < w10.heap.size := by
    have := hb10.size
    try simp at this
    omega
  have c10_2 := keepc hb10 (b := w3.heap.size) (o := 0) (v := .int .i64 1) (by go_simp)
  have c10_3 := keepc hb10 (b := w3.heap.size) (o := 1) (v := .int .i64 3) (by go_simp)
  have l10_1 : w3.heap.size < w10.heap.size := by
    have := hb10.size
    try simp at this
    omega
  have c10_4 := keepc hb10 (b := w5.heap.size) (o := 0) (v := .int .i64 1) (by go_simp)
  have c10_5 := keepc hb10 (b := w5.heap.size) (o := 1) (v := .int .i64 2) (by go_simp)
  have l10_2 : w5.heap.size < w10.heap.size := by
    have := hb10.size
    try simp at this
    omega
  have c10_6 := keepc hb10 (b := w6.heap.size) (o := 0) (v := .int .i64 1) (by go_simp)
  have c10_7 := keepc hb10 (b := w6.heap.size) (o := 1) (v := .int .i64 2) (by go_simp)
  have l10_3 : w6.heap.size < w10.heap.size := by
    have := hb10.size
    try simp at this
    omega
  have c10_8 := keepc hb10 (b := w7.heap.size) (o := 0) (v := .int .i64 0) (by go_simp)
  have c10_9 := keepc hb10 (b := w7.heap.size) (o := 1) (v := .int .i64 0) (by go_simp)
  have l10_4 : w7.heap.size < w10.heap.size := by
    have := hb10.size
    try simp at this
    omega
  have bl10 : Below w.heap.size w w10 := bl9.trans (hb10.mono bl9.size)
  have blo10 := hb10
  have s10_0 := s9_0.on blo10
  have s10_1 := s9_1.on blo10
  have s10_2 := s9_2.on blo10
  clear c9_0 c9_1 l9_0 c9_2 c9_3 l9_1 c9_4 c9_5 l9_2 c9_6 c9_7 l9_3 c9_8 c9_9 l9_4 s9_0 s9_1 s9_2 bl9 blo10 hb10
  go_wp2_with fail
  refine (sam_k 1 2 _).mono ?_
  rintro e w11 ⟨rfl, hb11⟩
  have c11_0 := keepc hb11 (b := w.heap.size) (o := 0) (v := .int .i64 1) (by go_simp)
  have c11_1 := keepc hb11 (b := w.heap.size) (o := 1) (v := .int .i64 2) (by go_simp)
  have l11_0 : w.heap.size < w11.heap.size := by
    have := hb11.size
    try simp at this
    omega
  have c11_2 := keepc hb11 (b := w3.heap.size) (o := 0) (v := .int .i64 1) (by go_simp)
  have c11_3 := keepc hb11 (b := w3.heap.size) (o := 1) (v := .int .i64 3) (by go_simp)
  have l11_1 : w3.heap.size < w11.heap.size := by
    have := hb11.size
    try simp at this
    omega
  have c11_4 := keepc hb11 (b := w5.heap.size) (o := 0) (v := .int .i64 1) (by go_simp)
  have c11_5 := keepc hb11 (b := w5.heap.size) (o := 1) (v := .int .i64 2) (by go_simp)
  have l11_2 : w5.heap.size < w11.heap.size := by
    have := hb11.size
    try simp at this
    omega
  have c11_6 := keepc hb11 (b := w6.heap.size) (o := 0) (v := .int .i64 1) (by go_simp)
  have c11_7 := keepc hb11 (b := w6.heap.size) (o := 1) (v := .int .i64 2) (by go_simp)
  have l11_3 : w6.heap.size < w11.heap.size := by
    have := hb11.size
    try simp at this
    omega
  have c11_8 := keepc hb11 (b := w7.heap.size) (o := 0) (v := .int .i64 0) (by go_simp)
  have c11_9 := keepc hb11 (b := w7.heap.size) (o := 1) (v := .int .i64 0) (by go_simp)
  have l11_4 : w7.heap.size < w11.heap.size := by
    have := hb11.size
    try simp at this
    omega
  have bl11 : Below w.heap.size w w11 := bl10.trans (hb11.mono bl10.size)
  have blo11 := hb11
  have s11_0 := s10_0.on blo11
  have s11_1 := s10_1.on blo11
  have s11_2 := s10_2.on blo11
  clear c10_0 c10_1 l10_0 c10_2 c10_3 l10_1 c10_4 c10_5 l10_2 c10_6 c10_7 l10_3 c10_8 c10_9 l10_4 s10_0 s10_1 s10_2 bl10 blo11 hb11
  go_wp2_with fail
  refine (sam_k 1 3 _).mono ?_
  rintro e w12 ⟨rfl, hb12⟩
  have c12_0 := keepc hb12 (b := w.heap.size) (o := 0) (v := .int .i64 1) (by go_simp)
  have c12_1 := keepc hb12 (b := w.heap.size) (o := 1) (v := .int .i64 2) (by go_simp)
  have l12_0 : w.heap.size < w12.heap.size := by
    have := hb12.size
    try simp at this
    omega
  have c12_2 := keepc hb12 (b := w3.heap.size) (o := 0) (v := .int .i64 1) (by go_simp)
  have c12_3 := keepc hb12 (b := w3.heap.size) (o := 1) (v := .int .i64 3) (by go_simp)
  have l12_1 : w3.heap.size < w12.heap.size := by
    have := hb12.size
    try simp at this
    omega
  have c12_4 := keepc hb12 (b := w5.heap.size) (o := 0) (v := .int .i64 1) (by go_simp)
  have c12_5 := keepc hb12 (b := w5.heap.size) (o := 1) (v := .int .i64 2) (by go_simp)
  have l12_2 : w5.heap.size < w12.heap.size := by
    have := hb12.size
    try simp at this
    omega
  have c12_6 := keepc hb12 (b := w6.heap.size) (o := 0) (v := .int .i64 1) (by go_simp)
  have c12_7 := keepc hb12 (b := w6.heap.size) (o := 1) (v := .int .i64 2) (by go_simp)
  have l12_3 : w6.heap.size < w12.heap.size := by
    have := hb12.size
    try simp at this
    omega
  have c12_8 := keepc hb12 (b := w7.heap.size) (o := 0) (v := .int .i64 0) (by go_simp)
  have c12_9 := keepc hb12 (b := w7.heap.size) (o := 1) (v := .int .i64 0) (by go_simp)
  have l12_4 : w7.heap.size < w12.heap.size := by
    have := hb12.size
    try simp at this
    omega
  have bl12 : Below w.heap.size w w12 := bl11.trans (hb12.mono bl11.size)
  have blo12 := hb12
  have s12_0 := s11_0.on blo12
  have s12_1 := s11_1.on blo12
  have s12_2 := s11_2.on blo12
  clear c11_0 c11_1 l11_0 c11_2 c11_3 l11_1 c11_4 c11_5 l11_2 c11_6 c11_7 l11_3 c11_8 c11_9 l11_4 s11_0 s11_1 s11_2 bl11 blo12 hb12
  go_wp2_with fail
  refine (less_k _).mono ?_
  rintro e w13 ⟨rfl, hb13⟩
  have c13_0 := keepc hb13 (b := w.heap.size) (o := 0) (v := .int .i64 1) (by go_simp)
  have c13_1 := keepc hb13 (b := w.heap.size) (o := 1) (v := .int .i64 2) (by go_simp)
  have l13_0 : w.heap.size < w13.heap.size := by
    have := hb13.size
    try simp at this
    omega
  have c13_2 := keepc hb13 (b := w3.heap.size) (o := 0) (v := .int .i64 1) (by go_simp)
  have c13_3 := keepc hb13 (b := w3.heap.size) (o := 1) (v := .int .i64 3) (by go_simp)
  have l13_1 : w3.heap.size < w13.heap.size := by
    have := hb13.size
    try simp at this
    omega
  have c13_4 := keepc hb13 (b := w5.heap.size) (o := 0) (v := .int .i64 1) (by go_simp)
  have c13_5 := keepc hb13 (b := w5.heap.size) (o := 1) (v := .int .i64 2) (by go_simp)
  have l13_2 : w5.heap.size < w13.heap.size := by
    have := hb13.size
    try simp at this
    omega
  have c13_6 := keepc hb13 (b := w6.heap.size) (o := 0) (v := .int .i64 1) (by go_simp)
  have c13_7 := keepc hb13 (b := w6.heap.size) (o := 1) (v := .int .i64 2) (by go_simp)
  have l13_3 : w6.heap.size < w13.heap.size := by
    have := hb13.size
    try simp at this
    omega
  have c13_8 := keepc hb13 (b := w7.heap.size) (o := 0) (v := .int .i64 0) (by go_simp)
  have c13_9 := keepc hb13 (b := w7.heap.size) (o := 1) (v := .int .i64 0) (by go_simp)
  have l13_4 : w7.heap.size < w13.heap.size := by
    have := hb13.size
    try simp at this
    omega
  have bl13 : Below w.heap.size w w13 := bl12.trans (hb13.mono bl12.size)
  have blo13 := hb13
  have s13_0 := s12_0.on blo13
  have s13_1 := s12_1.on blo13
  have s13_2 := s12_2.on blo13
  clear c12_0 c12_1 l12_0 c12_2 c12_3 l12_1 c12_4 c12_5 l12_2 c12_6 c12_7 l12_3 c12_8 c12_9 l12_4 s12_0 s12_1 s12_2 bl12 blo13 hb13
  go_wp2_with (go_at_call 17; refine (num_any _ _).mono ?_; rintro e w' ⟨rfl, rfl⟩)
  go_ret
  exact ⟨rfl, bl13⟩

end Go.Proofs.YtdpcmokemjfelaaGreatDoor.St
