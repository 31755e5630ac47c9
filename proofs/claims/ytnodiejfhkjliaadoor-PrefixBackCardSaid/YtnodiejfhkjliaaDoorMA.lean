/- Contracts of the small functions of prefixes: an address, a width, the low bits, the same. Contract: a bit of an address, by the reference. Contracts: a valid prefix, a held address, by the reference. Contracts: a valid prefix for every number of bits; a held address; by the reference. Contract: a held address, by the reference. -/
import Derived.Test.YtnodiejfhkjliaaDoorProg
import Derived.Test.YtnodiejfhkjliaaDoorWords
import Derived.Test.YtnodiejfhkjliaaDoorPrefixPlain
import Derived.WalkKit
import Derived.OwnWalk
import Derived.WalkLawsBesides
import Derived.WalkSpells
import Derived.Outline
import Derived.BigCall
import Derived.Lib.Hide
import Derived.Laws.Bits64
import Derived.Laws.BitsAllLaws
namespace Go.Proofs.YtnodiejfhkjliaaDoor.Pf
open Go.RowKit Go.Proofs.YtnodiejfhkjliaaDoor.Wd Go.Proofs.YtnodiejfhkjliaaDoor.Px

theorem two (w : World) (o o' : Obj) : Below w.heap.size w ((w.alloc o).alloc o') := ((Below.refl _ _).alloc (Nat.le_refl _) o).alloc (by simp) o'

theorem vaddr_any (f : Int) (hi lo : Nat) (w : World) :
    Calls Tryd.prog 13 #[.agg #[.int .i64 f, .int .u64 hi, .int .u64 lo]] w fun e w' => e = .returned (.bool (vA f hi lo)) ∧ Below w.heap.size w w' := by
  go_enter Tryd.func13, Tryd.ntmps13
  go_wp2
  all_goals go_ret
  all_goals exact ⟨ret_bool (by rw [Bool.eq_iff_iff, vA_iff]; simp <;> omega), (Below.refl _ _).alloc (Nat.le_refl _) _⟩
theorem rvaddr_any (f : Int) (hi lo : Nat) (w : World) :
    Calls Tryd.prog 14 #[.agg #[.int .i64 f, .int .u64 hi, .int .u64 lo]] w fun e w' => e = .returned (.bool (vA f hi lo)) ∧ Below w.heap.size w w' := by
  go_enter Tryd.func14, Tryd.ntmps14
  go_wp2
  all_goals go_ret
  all_goals exact ⟨ret_bool (by rw [Bool.eq_iff_iff, vA_iff]; simp <;> omega), (Below.refl _ _).alloc (Nat.le_refl _) _⟩
theorem width_any (f : Int) (w : World) :
    Calls Tryd.prog 42 #[.int .i64 f] w fun e w' => e = .returned (.int .i64 (wid f)) ∧ w' = w := by
  by_cases h4 : f = 4
  · obtain rfl : f = 4 := h4
    go_enter Tryd.func42, Tryd.ntmps42
    go_wp2
    go_ret
    exact ⟨rfl, rfl⟩
  · by_cases h6 : f = 6
    · obtain rfl : f = 6 := h6
      go_enter Tryd.func42, Tryd.ntmps42
      go_wp2
      go_ret
      exact ⟨rfl, rfl⟩
    · have e4 : (f == 4) = false := by simpa using h4
      have e6 : (f == 6) = false := by simpa using h6
      rw [show wid f = 0 by unfold wid; rw [if_neg h4, if_neg h6]]
      clear h4 h6
      go_enter Tryd.func42, Tryd.ntmps42
      go_wp2
      go_ret
      exact ⟨rfl, rfl⟩
theorem rbits_any (f : Int) (w : World) :
    Calls Tryd.prog 44 #[.int .i64 f] w fun e w' => e = .returned (.int .i64 (wid f)) ∧ w' = w := by
  by_cases h4 : f = 4
  · obtain rfl : f = 4 := h4
    go_enter Tryd.func44, Tryd.ntmps44
    go_wp2
    go_ret
    exact ⟨rfl, rfl⟩
  · by_cases h6 : f = 6
    · obtain rfl : f = 6 := h6
      go_enter Tryd.func44, Tryd.ntmps44
      go_wp2
      go_ret
      exact ⟨rfl, rfl⟩
    · have e4 : (f == 4) = false := by simpa using h4
      have e6 : (f == 6) = false := by simpa using h6
      rw [show wid f = 0 by unfold wid; rw [if_neg h4, if_neg h6]]
      clear h4 h6
      go_enter Tryd.func44, Tryd.ntmps44
      go_wp2
      go_ret
      exact ⟨rfl, rfl⟩

def samA (f : Int) (hi lo : Nat) (f' : Int) (hi' lo' : Nat) : Bool := decide (f = f' ∧ hi = hi' ∧ lo = lo')
theorem sama_any (f f' : Int) (hi lo hi' lo' : Nat) (w : World) :
    Calls Tryd.prog 33 #[.agg #[.int .i64 f, .int .u64 hi, .int .u64 lo], .agg #[.int .i64 f', .int .u64 hi', .int .u64 lo']] w fun e w' => e = .returned (.bool (samA f hi lo f' hi' lo')) ∧ Below w.heap.size w w' := by
  go_enter Tryd.func33, Tryd.ntmps33
  go_wp2
  all_goals go_ret
  all_goals exact ⟨ret_bool (by rw [Bool.eq_iff_iff]; simp [samA] <;> omega), two _ _ _⟩

theorem ones_eq (k : Nat) (hk : k ≤ 64) : IntKind.u64.wrap (IntKind.u64.wrap (2 ^ k) - 1) = ((2 ^ k - 1 : Nat) : Int) := by
  have hc : ((2 : Int) ^ k) = ((2 ^ k : Nat) : Int) := by simp
  by_cases h : k = 64
  · subst h; rfl
  · have h1 : 2 ^ k ≤ 2 ^ 63 := Nat.pow_le_pow_right (by omega) (by omega)
    have h2 : 0 < 2 ^ k := Nat.two_pow_pos k
    rw [hc, IntKind.wrap_u64, IntKind.wrap_u64]
    generalize 2 ^ k = x at h1 h2
    omega
theorem ones_any (k : Nat) (hk : k ≤ 64) (w : World) :
    Calls Tryd.prog 70 #[.int .i64 k] w fun e w' => e = .returned (.int .u64 ((2 ^ k - 1 : Nat) : Int)) ∧ w' = w := by
  go_enter Tryd.func70, Tryd.ntmps70
  go_wp2
  go_ret
  exact ⟨ret_int (ones_eq k hk), rfl⟩

theorem samp_any (f f' : Int) (hi lo hi' lo' : Nat) (b b' : Int) (w : World) :
    Calls Tryd.prog 34 #[.agg #[.int .i64 f, .int .u64 hi, .int .u64 lo, .int .i64 b], .agg #[.int .i64 f', .int .u64 hi', .int .u64 lo', .int .i64 b']] w fun e w' => e = .returned (.bool (samA f hi lo f' hi' lo' && decide (b = b'))) ∧ Below w.heap.size w w' := by
  cases hS : samA f hi lo f' hi' lo'
  · have HS := Lib.hid hS
    clear hS
    go_enter Tryd.func34, Tryd.ntmps34
    go_wp2_with fail
    refine (sama_any f f' hi lo hi' lo' _).mono ?_
    rintro e w1 ⟨rfl, hb⟩
    rw [HS.out]
    have c0 := keepc hb (b := w.heap.size) (o := 3) (v := .int .i64 b) (by go_simp)
    have c1 := keepc hb (b := w.heap.size + 1) (o := 3) (v := .int .i64 b') (by go_simp)
    have bl := (two w (.cells #[.int .i64 f, .int .u64 hi, .int .u64 lo, .int .i64 b] 26) (.cells #[.int .i64 f', .int .u64 hi', .int .u64 lo', .int .i64 b'] 26)).trans (hb.mono (by simp; omega))
    clear hb
    go_wp2
    go_ret
    exact ⟨ret_bool (by rw [Bool.eq_iff_iff]; simp), bl⟩
  · have HS := Lib.hid hS
    clear hS
    go_enter Tryd.func34, Tryd.ntmps34
    go_wp2_with fail
    refine (sama_any f f' hi lo hi' lo' _).mono ?_
    rintro e w1 ⟨rfl, hb⟩
    rw [HS.out]
    have c0 := keepc hb (b := w.heap.size) (o := 3) (v := .int .i64 b) (by go_simp)
    have c1 := keepc hb (b := w.heap.size + 1) (o := 3) (v := .int .i64 b') (by go_simp)
    have bl := (two w (.cells #[.int .i64 f, .int .u64 hi, .int .u64 lo, .int .i64 b] 26) (.cells #[.int .i64 f', .int .u64 hi', .int .u64 lo', .int .i64 b'] 26)).trans (hb.mono (by simp; omega))
    clear hb
    go_wp2
    go_ret
    exact ⟨ret_bool (by rw [Bool.eq_iff_iff]; simp), bl⟩

end Go.Proofs.YtnodiejfhkjliaaDoor.Pf

namespace Go.Proofs.YtnodiejfhkjliaaDoor.Pf
open Go.RowKit Go.Proofs.YtnodiejfhkjliaaDoor.Wd Go.Proofs.YtnodiejfhkjliaaDoor.Px

theorem bit6 (hi lo i : Nat) (hl : lo < 18446744073709551616) (h : i < 128) : bitAt 6 hi lo i = if 64 ≤ 127 - i then hi.testBit (127 - i - 64) else lo.testBit (127 - i) := by
  have e : num 6 hi lo = 2 ^ 64 * hi + lo := by simp [num]; omega
  have ew : wid 6 = 128 := rfl
  unfold bitAt
  rw [e, ew, show 128 - 1 - i = 127 - i by omega, Nat.testBit_two_pow_mul_add _ hl]
  by_cases c : 127 - i < 64
  · rw [if_pos c, if_neg (by omega)]
  · rw [if_neg c, if_pos (by omega)]
theorem bit4 (hi lo i : Nat) : bitAt 4 hi lo i = lo.testBit (31 - i) := rfl

theorem and1 (x k : Nat) (hx : x < 18446744073709551616) : (bits .and .u64 ((x : Int) / 2 ^ k) 1 == 1) = x.testBit k := by
  have e : ((x : Int) / 2 ^ k) = ((x / 2 ^ k : Nat) : Int) := by simp
  have h := u64_and_nat (x / 2 ^ k) 1 (Nat.lt_of_le_of_lt (Nat.div_le_self ..) hx) (by omega)
  rw [e, show ((1 : Int)) = ((1 : Nat) : Int) from rfl, h, Nat.and_one_is_mod, Nat.testBit_eq_decide_div_mod_eq, Bool.eq_iff_iff]
  generalize x / 2 ^ k = y
  simp
  omega

theorem rbit_64 (f : Int) (hi lo : Nat) (i : Nat) (w : World) (hh : hi < 18446744073709551616) (h : i + 64 < wid f) (hw : wid f ≤ 128) :
    Calls Tryd.prog 45 #[.agg #[.int .i64 f, .int .u64 hi, .int .u64 lo], .int .i64 i] w fun e w' => e = .returned (.bool (hi.testBit (wid f - 1 - i - 64))) ∧ Below w.heap.size w w' := by
  obtain ⟨m, hm⟩ : ∃ m, wid f = m := ⟨_, rfl⟩
  have HM := Lib.hid hm
  rw [hm] at h hw ⊢
  clear hm
  obtain ⟨k, hk⟩ : ∃ k : Nat, m - 1 - i - 64 = k := ⟨_, rfl⟩
  obtain rfl : m = k + 65 + i := by omega
  rw [hk]
  clear hk
  have hg : (64 : Int) ≤ (k : Int) + 65 + (i : Int) - 1 - (i : Int) := by omega
  go_enter Tryd.func45, Tryd.ntmps45
  go_wp2_with fail
  refine (rbits_any f _).mono ?_
  rintro e w1 ⟨rfl, rfl⟩
  rw [HM.out]
  go_wp2
  go_ret
  exact ⟨ret_bool (and1 _ _ hh), (Below.refl _ _).alloc (Nat.le_refl _) _⟩
theorem rbit_0 (f : Int) (hi lo : Nat) (i : Nat) (w : World) (hh : lo < 18446744073709551616) (h : i < wid f) (h2 : wid f ≤ i + 64) (hw : wid f ≤ 128) :
    Calls Tryd.prog 45 #[.agg #[.int .i64 f, .int .u64 hi, .int .u64 lo], .int .i64 i] w fun e w' => e = .returned (.bool (lo.testBit (wid f - 1 - i))) ∧ Below w.heap.size w w' := by
  obtain ⟨m, hm⟩ : ∃ m, wid f = m := ⟨_, rfl⟩
  have HM := Lib.hid hm
  rw [hm] at h h2 hw ⊢
  clear hm
  obtain ⟨k, hk⟩ : ∃ k : Nat, m - 1 - i = k := ⟨_, rfl⟩
  obtain rfl : m = k + 1 + i := by omega
  rw [hk]
  clear hk
  have hg : ¬ (64 : Int) ≤ (k : Int) + 1 + (i : Int) - 1 - (i : Int) := by omega
  go_enter Tryd.func45, Tryd.ntmps45
  go_wp2_with fail
  refine (rbits_any f _).mono ?_
  rintro e w1 ⟨rfl, rfl⟩
  rw [HM.out]
  go_wp2
  go_ret
  exact ⟨ret_bool (and1 _ _ hh), (Below.refl _ _).alloc (Nat.le_refl _) _⟩
theorem rbit_any (f : Int) (hi lo : Nat) (i : Nat) (w : World) (hh : hi < 18446744073709551616) (hl : lo < 18446744073709551616) (hv : vA f hi lo = true) (h : i < wid f) :
    Calls Tryd.prog 45 #[.agg #[.int .i64 f, .int .u64 hi, .int .u64 lo], .int .i64 i] w fun e w' => e = .returned (.bool (bitAt f hi lo i)) ∧ Below w.heap.size w w' := by
  rcases (vA_iff f hi lo).1 hv with rfl | ⟨rfl, rfl, -⟩
  · have h6 : i < 128 := h
    rw [bit6 hi lo i hl h6]
    by_cases c : 64 ≤ 127 - i
    · rw [if_pos c]
      exact rbit_64 6 hi lo i w hh (show i + 64 < 128 by omega) (Nat.le_refl _)
    · rw [if_neg c]
      exact rbit_0 6 hi lo i w hl h (show 128 ≤ i + 64 by omega) (Nat.le_refl _)
  · rw [bit4]
    exact rbit_0 4 0 lo i w hl h (show 32 ≤ i + 64 by omega) (show 32 ≤ 128 by omega)

end Go.Proofs.YtnodiejfhkjliaaDoor.Pf

namespace Go.Proofs.YtnodiejfhkjliaaDoor.Pf
open Go.RowKit Go.Proofs.YtnodiejfhkjliaaDoor.Wd Go.Proofs.YtnodiejfhkjliaaDoor.Px

/-- a prefix in a block of its own -/
structure PB (w : World) (B : Nat) (f : Int) (hi lo : Nat) (b : Int) : Prop where
  c0 : w.cell? ⟨B, 0, none⟩ = some (.int .i64 f)
  c1 : w.cell? ⟨B, 1, none⟩ = some (.int .u64 hi)
  c2 : w.cell? ⟨B, 2, none⟩ = some (.int .u64 lo)
  c3 : w.cell? ⟨B, 3, none⟩ = some (.int .i64 b)
theorem PB.on {w w' : World} {B : Nat} {f : Int} {hi lo : Nat} {b : Int} (h : PB w B f hi lo b) (hb : Below w.heap.size w w') : PB w' B f hi lo b :=
  ⟨keepc hb h.c0, keepc hb h.c1, keepc hb h.c2, keepc hb h.c3⟩
theorem pb_new (w : World) (f : Int) (hi lo : Nat) (b : Int) (t : TypeId) : PB (w.alloc (.cells #[.int .i64 f, .int .u64 hi, .int .u64 lo, .int .i64 b] t)) w.heap.size f hi lo b := by
  constructor
  all_goals (rw [World.cell?_alloc_at _ _ _ _ rfl]; rfl)

theorem wid_le (f : Int) : wid f ≤ 128 := by unfold wid; split <;> (try split) <;> omega
theorem one (w : World) (o : Obj) : Below w.heap.size w (w.alloc o) := (Below.refl _ _).alloc (Nat.le_refl _) o

set_option maxRecDepth 20000 in
set_option maxHeartbeats 2000000 in
theorem rvalid_loop (f : Int) (hi lo b : Nat) (w : World) (hh : hi < 18446744073709551616) (hl : lo < 18446744073709551616) (hv : vA f hi lo = true) (hb : b ≤ wid f) :
    Calls Tryd.prog 16 #[.agg #[.int .i64 f, .int .u64 hi, .int .u64 lo, .int .i64 b]] w fun e w' => e = .returned (.bool (vP f hi lo b)) ∧ Below w.heap.size w w' := by
  have hw := wid_le f
  have HV := Lib.hid hv
  clear hv
  obtain ⟨n, hn⟩ : ∃ n, wid f = n := ⟨_, rfl⟩
  rw [hn] at hw hb
  have HN := Lib.hid hn
  clear hn
  have hb1 : (b : Int) ≤ (n : Int) := by omega
  have d1 : decide ((b : Int) < 0) = false := by rw [decide_eq_false_iff_not]; omega
  have d2 : decide (n < b) = false := by rw [decide_eq_false_iff_not]; omega
  have hp := pb_new w f hi lo b 26
  have hbl := one w (.cells #[.int .i64 f, .int .u64 hi, .int .u64 lo, .int .i64 b] 26)
  go_enter Tryd.func16, Tryd.ntmps16
  go_wp2_with fail
  refine (rvaddr_any f hi lo _).mono ?_
  rintro e w1 ⟨rfl, hb2⟩
  rw [HV.out]
  have hp1 := hp.on hb2
  have hbl1 := hbl.trans (hb2.mono hbl.size)
  clear hp hbl hb2
  obtain ⟨e0, e1, e2, e3⟩ := hp1
  go_wp2_with fail
  refine (rbits_any f _).mono ?_
  rintro e w2 ⟨rfl, rfl⟩
  rw [HN.out]
  have hp1 : PB w2 w.heap.size f hi lo b := ⟨e0, e1, e2, e3⟩
  go_wp2
  clear e0 e1 e2 e3
  go_loopw [5] (fun i wr => ∃ k : Nat, b ≤ k ∧ k ≤ n ∧ i = .int .i64 k ∧ PB wr w.heap.size f hi lo b ∧ Below w.heap.size w wr ∧ Hid (∀ j, b ≤ j → j < k → bitAt f hi lo j = false)) (fun i _ => n - (intOf i).toNat)
  case atStart => exact ⟨b, Nat.le_refl _, hb, rfl, hp1, hbl1, Lib.hid fun j h1 h2 => by omega⟩
  case round =>
    obtain ⟨k, hk1, hk2, rfl, hp, hbl, HB⟩ := hrel
    clear hp1 hbl1
    by_cases hlt : k < n
    · have i1 : (k : Int) < (n : Int) := by omega
      obtain ⟨e0, e1, e2, e3⟩ := hp
      go_wp2_with fail
      refine (rbit_any f hi lo k _ hh hl HV.out (by rw [HN.out]; exact hlt)).mono ?_
      rintro e w3 ⟨rfl, hb3⟩
      have hp3 := (PB.mk e0 e1 e2 e3).on hb3
      have hbl3 := hbl.trans (hb3.mono hbl.size)
      clear e0 e1 e2 e3 hb3 hbl
      cases hB : bitAt f hi lo k with
      | true =>
        have HB2 := Lib.hid hB
        clear hB
        go_wp2
        go_ret
        refine ⟨ret_bool ?_, hbl3⟩
        symm
        rw [← Bool.not_eq_true, vP_iff]
        rintro ⟨-, -, -, h⟩
        rw [Int.toNat_natCast, valid_bits (by rw [HN.out]; exact hb)] at h
        have := h k hk1 (by rw [HN.out]; exact hlt)
        rw [HB2.out] at this
        cases this
      | false =>
        have HB2 := Lib.hid hB
        clear hB
        have HB3 : Hid (∀ j, b ≤ j → j < k + 1 → bitAt f hi lo j = false) := Lib.hid fun j h1 h2 => by
          by_cases hj : j = k
          · rw [hj]; exact HB2.out
          · exact HB.out j h1 (by omega)
        go_wp2
        go_roundw
        case rel => exact ⟨k + 1, by omega, by omega, by go_num, hp3, hbl3, HB3⟩
        case measure => simp [intOf]; omega
    · obtain rfl : k = n := by omega
      go_wp2
      go_ret
      refine ⟨ret_bool ?_, hbl⟩
      symm
      rw [vP_iff]
      refine ⟨HV.out, by omega, by rw [HN.out]; exact hb1, ?_⟩
      rw [Int.toNat_natCast, valid_bits (by rw [HN.out]; exact hb)]
      intro j h1 h2
      exact HB.out j h1 (by rw [← HN.out]; exact h2)

end Go.Proofs.YtnodiejfhkjliaaDoor.Pf

namespace Go.Proofs.YtnodiejfhkjliaaDoor.Pf
open Go.RowKit Go.Proofs.YtnodiejfhkjliaaDoor.Wd Go.Proofs.YtnodiejfhkjliaaDoor.Px

set_option maxHeartbeats 2000000 in
theorem rvalid_no (f : Int) (hi lo : Nat) (b : Int) (w : World) (h : vA f hi lo = false ∨ (vA f hi lo = true ∧ (b < 0 ∨ (wid f : Int) < b))) :
    Calls Tryd.prog 16 #[.agg #[.int .i64 f, .int .u64 hi, .int .u64 lo, .int .i64 b]] w fun e w' => e = .returned (.bool false) ∧ Below w.heap.size w w' := by
  obtain ⟨n, hn⟩ : ∃ n, wid f = n := ⟨_, rfl⟩
  rw [hn] at h
  have HN := Lib.hid hn
  clear hn
  have hp := pb_new w f hi lo b 26
  have hbl := one w (.cells #[.int .i64 f, .int .u64 hi, .int .u64 lo, .int .i64 b] 26)
  go_enter Tryd.func16, Tryd.ntmps16
  go_wp2_with fail
  refine (rvaddr_any f hi lo _).mono ?_
  rintro e w1 ⟨rfl, hb2⟩
  have hp1 := hp.on hb2
  have hbl1 := hbl.trans (hb2.mono hbl.size)
  clear hp hbl hb2
  obtain ⟨e0, e1, e2, e3⟩ := hp1
  go_wp2_with fail
  refine (rbits_any f _).mono ?_
  rintro e w2 ⟨rfl, rfl⟩
  rw [HN.out]
  rcases h with h | ⟨hvt, h | h⟩
  · rw [h]
    clear h
    go_wp2
    go_ret
    exact ⟨rfl, hbl1⟩
  · rw [hvt]
    go_wp2
    go_ret
    exact ⟨rfl, hbl1⟩
  · rw [hvt]
    have d1 : decide (b < 0) = false := by rw [decide_eq_false_iff_not]; omega
    go_wp2
    go_ret
    exact ⟨rfl, hbl1⟩
theorem rvalid_any (f : Int) (hi lo : Nat) (b : Int) (w : World) (hh : hi < 18446744073709551616) (hl : lo < 18446744073709551616) :
    Calls Tryd.prog 16 #[.agg #[.int .i64 f, .int .u64 hi, .int .u64 lo, .int .i64 b]] w fun e w' => e = .returned (.bool (vP f hi lo b)) ∧ Below w.heap.size w w' := by
  have no : vP f hi lo b = false → (vA f hi lo = false ∨ (vA f hi lo = true ∧ (b < 0 ∨ (wid f : Int) < b))) → Calls Tryd.prog 16 #[.agg #[.int .i64 f, .int .u64 hi, .int .u64 lo, .int .i64 b]] w fun e w' => e = .returned (.bool (vP f hi lo b)) ∧ Below w.heap.size w w' := fun h1 h2 => by
    rw [h1]; exact rvalid_no f hi lo b w h2
  cases hv : vA f hi lo with
  | false => exact no (by rw [← Bool.not_eq_true, vP_iff]; simp [hv]) (.inl hv)
  | true =>
    by_cases h1 : b < 0
    · exact no (by rw [← Bool.not_eq_true, vP_iff]; omega) (.inr ⟨hv, .inl h1⟩)
    · by_cases h2 : (wid f : Int) < b
      · exact no (by rw [← Bool.not_eq_true, vP_iff]; omega) (.inr ⟨hv, .inr h2⟩)
      · obtain ⟨c, rfl⟩ : ∃ c : Nat, b = c := ⟨b.toNat, by omega⟩
        exact rvalid_loop f hi lo c w hh hl hv (by omega)

end Go.Proofs.YtnodiejfhkjliaaDoor.Pf

namespace Go.Proofs.YtnodiejfhkjliaaDoor.Pf
open Go.RowKit Go.Proofs.YtnodiejfhkjliaaDoor.Wd Go.Proofs.YtnodiejfhkjliaaDoor.Px

/-- an address in a block of its own -/
structure AB (w : World) (B : Nat) (f : Int) (hi lo : Nat) : Prop where
  c0 : w.cell? ⟨B, 0, none⟩ = some (.int .i64 f)
  c1 : w.cell? ⟨B, 1, none⟩ = some (.int .u64 hi)
  c2 : w.cell? ⟨B, 2, none⟩ = some (.int .u64 lo)
theorem AB.on {w w' : World} {B : Nat} {f : Int} {hi lo : Nat} (h : AB w B f hi lo) (hb : Below w.heap.size w w') : AB w' B f hi lo :=
  ⟨keepc hb h.c0, keepc hb h.c1, keepc hb h.c2⟩
theorem ab_new (w : World) (f : Int) (hi lo : Nat) (t : TypeId) : AB (w.alloc (.cells #[.int .i64 f, .int .u64 hi, .int .u64 lo] t)) w.heap.size f hi lo := by
  constructor
  all_goals (rw [World.cell?_alloc_at _ _ _ _ rfl]; rfl)

def hld (f : Int) (hi lo : Nat) (b : Int) (f' : Int) (hi' lo' : Nat) : Bool :=
  vP f hi lo b && (vA f' hi' lo' && (decide (f = f') && decide (num f hi lo / 2 ^ (wid f - b.toNat) = num f' hi' lo' / 2 ^ (wid f - b.toNat))))
theorem hld_iff (f : Int) (hi lo : Nat) (b : Int) (f' : Int) (hi' lo' : Nat) : hld f hi lo b f' hi' lo' = true ↔
    vP f hi lo b = true ∧ vA f' hi' lo' = true ∧ f = f' ∧ num f hi lo / 2 ^ (wid f - b.toNat) = num f' hi' lo' / 2 ^ (wid f - b.toNat) := by simp [hld]

theorem two_bools {X Y : Bool} (h : ¬ X = Y) : (X = false ∧ Y = true) ∨ (X = true ∧ Y = false) := by cases X <;> cases Y <;> simp_all
theorem hld_bit {f : Int} {hi lo b hi' lo' k : Nat} (hb : b ≤ wid f) (hv : vA f hi lo = true) (hv' : vA f hi' lo' = true) (hh : hi < 18446744073709551616) (hl : lo < 18446744073709551616) (hh' : hi' < 18446744073709551616) (hl' : lo' < 18446744073709551616)
    (hk : k < b) (hne : bitAt f hi lo k ≠ bitAt f hi' lo' k) : hld f hi lo b f hi' lo' = false := by
  rw [← Bool.not_eq_true, hld_iff]
  rintro ⟨-, -, -, h⟩
  rw [Int.toNat_natCast, holds_bits hb (num_lt hv hh hl) (num_lt hv' hh' hl')] at h
  exact hne (h k hk)
theorem rbit_as {f : Int} {hi lo i : Nat} {X : Bool} (h : Hid (bitAt f hi lo i = X)) (w : World) (hh : hi < 18446744073709551616) (hl : lo < 18446744073709551616) (hv : vA f hi lo = true) (hi' : i < wid f) :
    Calls Tryd.prog 45 #[.agg #[.int .i64 f, .int .u64 hi, .int .u64 lo], .int .i64 i] w fun e w' => e = .returned (.bool X) ∧ Below w.heap.size w w' := by
  have := rbit_any f hi lo i w hh hl hv hi'
  rwa [h.out] at this

set_option maxHeartbeats 2000000 in
theorem rholds_no (f : Int) (hi lo : Nat) (b : Int) (f' : Int) (hi' lo' : Nat) (w : World) (hh : hi < 18446744073709551616) (hl : lo < 18446744073709551616) (h : vP f hi lo b = false ∨ (vP f hi lo b = true ∧ (vA f' hi' lo' = false ∨ (vA f' hi' lo' = true ∧ f ≠ f')))) :
    Calls Tryd.prog 19 #[.agg #[.int .i64 f, .int .u64 hi, .int .u64 lo, .int .i64 b], .agg #[.int .i64 f', .int .u64 hi', .int .u64 lo']] w fun e w' => e = .returned (.bool false) ∧ Below w.heap.size w w' := by
  have hp := (pb_new w f hi lo b 26).on (one _ (.cells #[.int .i64 f', .int .u64 hi', .int .u64 lo'] 24))
  have ha := ab_new (w.alloc (.cells #[.int .i64 f, .int .u64 hi, .int .u64 lo, .int .i64 b] 26)) f' hi' lo' 24
  have hbl := two w (.cells #[.int .i64 f, .int .u64 hi, .int .u64 lo, .int .i64 b] 26) (.cells #[.int .i64 f', .int .u64 hi', .int .u64 lo'] 24)
  rw [World.size_alloc] at ha
  go_enter Tryd.func19, Tryd.ntmps19
  go_wp2_with fail
  refine (rvalid_any f hi lo b _ hh hl).mono ?_
  rintro e w1 ⟨rfl, hb1⟩
  have hp1 := hp.on hb1
  have ha1 := ha.on hb1
  have hbl1 := hbl.trans (hb1.mono hbl.size)
  clear hp ha hbl hb1
  obtain ⟨a0, a1, a2⟩ := ha1
  go_wp2_with fail
  refine (rvaddr_any f' hi' lo' _).mono ?_
  rintro e w2 ⟨rfl, hb2⟩
  have hp2 := hp1.on hb2
  have ha2 := (AB.mk a0 a1 a2).on hb2
  have hbl2 := hbl1.trans (hb2.mono hbl1.size)
  clear hp1 hbl1 a0 a1 a2 hb2
  obtain ⟨a0, a1, a2⟩ := ha2
  obtain ⟨e0, e1, e2, e3⟩ := hp2
  rcases h with h | ⟨hv, h | ⟨hv2, h⟩⟩
  · rw [h]
    clear h
    go_wp2
    go_ret
    exact ⟨rfl, hbl2⟩
  · rw [hv, h]
    clear hv h
    go_wp2
    go_ret
    exact ⟨rfl, hbl2⟩
  · rw [hv, hv2]
    have h2 : (f != f') = true := by simpa using h
    clear hv hv2 h
    go_wp2
    go_ret
    exact ⟨rfl, hbl2⟩

set_option maxRecDepth 20000 in
set_option maxHeartbeats 2000000 in
theorem rholds_loop (f : Int) (hi lo b hi' lo' : Nat) (w : World) (hh : hi < 18446744073709551616) (hl : lo < 18446744073709551616) (hh' : hi' < 18446744073709551616) (hl' : lo' < 18446744073709551616)
    (hv : vP f hi lo b = true) (hv' : vA f hi' lo' = true) :
    Calls Tryd.prog 19 #[.agg #[.int .i64 f, .int .u64 hi, .int .u64 lo, .int .i64 b], .agg #[.int .i64 f, .int .u64 hi', .int .u64 lo']] w fun e w' => e = .returned (.bool (hld f hi lo b f hi' lo')) ∧ Below w.heap.size w w' := by
  obtain ⟨hvA, -, hbw, -⟩ := (vP_iff f hi lo b).1 hv
  have hbn : b ≤ wid f := by omega
  have hb128 : b ≤ 128 := Nat.le_trans hbn (wid_le f)
  have HVP := Lib.hid hv
  have HVA := Lib.hid hvA
  have HVB := Lib.hid hv'
  have HBN := Lib.hid hbn
  clear hv hv' hvA hbw hbn
  have hfe : (f != f) = false := by simp
  have hp := (pb_new w f hi lo b 26).on (one _ (.cells #[.int .i64 f, .int .u64 hi', .int .u64 lo'] 24))
  have ha := ab_new (w.alloc (.cells #[.int .i64 f, .int .u64 hi, .int .u64 lo, .int .i64 b] 26)) f hi' lo' 24
  have hbl := two w (.cells #[.int .i64 f, .int .u64 hi, .int .u64 lo, .int .i64 b] 26) (.cells #[.int .i64 f, .int .u64 hi', .int .u64 lo'] 24)
  rw [World.size_alloc] at ha
  go_enter Tryd.func19, Tryd.ntmps19
  go_wp2_with fail
  refine (rvalid_any f hi lo b _ hh hl).mono ?_
  rintro e w1 ⟨rfl, hb1⟩
  rw [HVP.out]
  have hp1 := hp.on hb1
  have ha1 := ha.on hb1
  have hbl1 := hbl.trans (hb1.mono hbl.size)
  clear hp ha hbl hb1
  obtain ⟨a0, a1, a2⟩ := ha1
  go_wp2_with fail
  refine (rvaddr_any f hi' lo' _).mono ?_
  rintro e w2 ⟨rfl, hb2⟩
  rw [HVB.out]
  have hp2 := hp1.on hb2
  have ha2 := (AB.mk a0 a1 a2).on hb2
  have hbl2 := hbl1.trans (hb2.mono hbl1.size)
  clear hp1 hbl1 a0 a1 a2 hb2
  obtain ⟨a0, a1, a2⟩ := ha2
  obtain ⟨e0, e1, e2, e3⟩ := hp2
  go_wp2
  have ha2 : AB w2 (w.heap.size + 1) f hi' lo' := ⟨a0, a1, a2⟩
  have hp2 : PB w2 w.heap.size f hi lo b := ⟨e0, e1, e2, e3⟩
  clear a0 a1 a2 e0 e1 e2 e3
  go_loopw [7] (fun i wr => ∃ k : Nat, k ≤ b ∧ i = .int .i64 k ∧ PB wr w.heap.size f hi lo b ∧ AB wr (w.heap.size + 1) f hi' lo' ∧ Below w.heap.size w wr ∧ Hid (∀ j, j < k → bitAt f hi lo j = bitAt f hi' lo' j)) (fun i _ => b - (intOf i).toNat)
  case atStart => exact ⟨0, Nat.zero_le _, rfl, hp2, ha2, hbl2, Lib.hid fun j h1 => by omega⟩
  case round =>
    obtain ⟨k, hk, rfl, hp, ha, hbl, HB⟩ := hrel
    clear hp2 ha2 hbl2
    obtain ⟨e0, e1, e2, e3⟩ := hp
    obtain ⟨a0, a1, a2⟩ := ha
    by_cases hlt : k < b
    · have i1 : (k : Int) < (b : Int) := by omega
      obtain ⟨X, hX⟩ : ∃ X, bitAt f hi lo k = X := ⟨_, rfl⟩
      obtain ⟨Y, hY⟩ : ∃ Y, bitAt f hi' lo' k = Y := ⟨_, rfl⟩
      have HX := Lib.hid hX
      have HY := Lib.hid hY
      clear hX hY
      go_wp2_with fail
      refine (rbit_as HX _ hh hl HVA.out (Nat.lt_of_lt_of_le hlt HBN.out)).mono ?_
      rintro e w3 ⟨rfl, hb3⟩
      have hp3 := (PB.mk e0 e1 e2 e3).on hb3
      have ha3 := (AB.mk a0 a1 a2).on hb3
      have hbl3 := hbl.trans (hb3.mono hbl.size)
      clear e0 e1 e2 e3 a0 a1 a2 hb3 hbl
      obtain ⟨a0, a1, a2⟩ := ha3
      go_wp2_with fail
      refine (rbit_as HY _ hh' hl' HVB.out (Nat.lt_of_lt_of_le hlt HBN.out)).mono ?_
      rintro e w4 ⟨rfl, hb4⟩
      have hp4 := hp3.on hb4
      have ha4 := (AB.mk a0 a1 a2).on hb4
      have hbl4 := hbl3.trans (hb4.mono hbl3.size)
      clear hp3 hbl3 a0 a1 a2 hb4
      by_cases hB : X = Y
      · obtain rfl := hB
        have HB3 : Hid (∀ j, j < k + 1 → bitAt f hi lo j = bitAt f hi' lo' j) := Lib.hid fun j h1 => by
          by_cases hj : j = k
          · rw [hj, HX.out, HY.out]
          · exact HB.out j (by omega)
        have hne : (X != X) = false := by simp
        go_wp2
        go_roundw
        case rel => exact ⟨k + 1, by omega, by go_num, hp4, ha4, hbl4, HB3⟩
        case measure => simp [intOf]; omega
      · have hne := two_bools hB
        clear hB
        rcases hne with ⟨rfl, rfl⟩ | ⟨rfl, rfl⟩
        all_goals go_wp2
        all_goals go_ret
        all_goals exact ⟨ret_bool (hld_bit HBN.out HVA.out HVB.out hh hl hh' hl' hlt (by rw [HX.out, HY.out]; decide)).symm, hbl4⟩
    · obtain rfl : k = b := by omega
      go_wp2
      go_ret
      refine ⟨ret_bool ?_, hbl⟩
      symm
      rw [hld_iff]
      refine ⟨HVP.out, HVB.out, rfl, ?_⟩
      rw [Int.toNat_natCast, holds_bits HBN.out (num_lt HVA.out hh hl) (num_lt HVB.out hh' hl')]
      exact HB.out
theorem rholds_any (f : Int) (hi lo : Nat) (b : Int) (f' : Int) (hi' lo' : Nat) (w : World) (hh : hi < 18446744073709551616) (hl : lo < 18446744073709551616) (hh' : hi' < 18446744073709551616) (hl' : lo' < 18446744073709551616) :
    Calls Tryd.prog 19 #[.agg #[.int .i64 f, .int .u64 hi, .int .u64 lo, .int .i64 b], .agg #[.int .i64 f', .int .u64 hi', .int .u64 lo']] w fun e w' => e = .returned (.bool (hld f hi lo b f' hi' lo')) ∧ Below w.heap.size w w' := by
  cases h1 : vP f hi lo b with
  | false => rw [show hld f hi lo b f' hi' lo' = false by simp [hld, h1]]; exact rholds_no f hi lo b f' hi' lo' w hh hl (.inl h1)
  | true =>
    cases h2 : vA f' hi' lo' with
    | false => rw [show hld f hi lo b f' hi' lo' = false by simp [hld, h2]]; exact rholds_no f hi lo b f' hi' lo' w hh hl (.inr ⟨h1, .inl h2⟩)
    | true =>
      by_cases h3 : f = f'
      · obtain rfl := h3
        obtain ⟨-, hb0, -, -⟩ := (vP_iff f hi lo b).1 h1
        obtain ⟨c, rfl⟩ : ∃ c : Nat, b = c := ⟨b.toNat, by omega⟩
        exact rholds_loop f hi lo c hi' lo' w hh hl hh' hl' h1 h2
      · rw [show hld f hi lo b f' hi' lo' = false by simp [hld, h3]]
        exact rholds_no f hi lo b f' hi' lo' w hh hl (.inr ⟨h1, .inr ⟨h2, h3⟩⟩)

end Go.Proofs.YtnodiejfhkjliaaDoor.Pf
