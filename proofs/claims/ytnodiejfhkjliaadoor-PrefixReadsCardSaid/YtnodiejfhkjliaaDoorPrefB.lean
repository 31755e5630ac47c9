/- Contract: a bit of an address, by the reference. -/
import Derived.Test.YtnodiejfhkjliaaDoorPrefA
import Derived.Laws.BitsAllLaws
namespace Go.Proofs.YtnodiejfhkjliaaDoor.Pf
open Go.RowKit Go.Proofs.YtnodiejfhkjliaaDoor.Wd Go.Proofs.YtnodiejfhkjliaaDoor.Px

theorem bit6 (hi lo i : Nat) (hl : lo < 18446744073709551616) (h : i < 128) : bitAt 6 hi lo i = if 64 ≤ 127 - i then hi.testBit (127 - i - 64) else lo.testBit (127 - i) := by
  have e : num 6 hi lo = 2 ^ 64 * hi + lo := by simp [num]; omega
  have ew : wid 6 = 128 := rfl
  unfold bitAt
  rw [e, ew, show 128 - 1 - i = 127 - i by omega, Nat.testBit_two_pow_mul_add _ hl]
  by_cases c : 127 - i < 64
  · rw [if_pos c, if_neg (by omega)]
  · rw [if_neg c, if_pos (by omega)]
theorem bit4 (hi lo i : Nat) : bitAt 4 hi lo i = lo.testBit (31 - i) := rfl

theorem and1 (x k : Nat) (hx : x < 18446744073709551616) : (bits .and .u64 ((x : Int) / 2 ^ k) 1 == 1) = x.testBit k := by
  have e : ((x : Int) / 2 ^ k) = ((x / 2 ^ k : Nat) : Int) := by simp
  have h := u64_and_nat (x / 2 ^ k) 1 (Nat.lt_of_le_of_lt (Nat.div_le_self ..) hx) (by omega)
  rw [e, show ((1 : Int)) = ((1 : Nat) : Int) from rfl, h, Nat.and_one_is_mod, Nat.testBit_eq_decide_div_mod_eq, Bool.eq_iff_iff]
  generalize x / 2 ^ k = y
  simp
  omega

theorem rbit_64 (f : Int) (hi lo : Nat) (i : Nat) (w : World) (hh : hi < 18446744073709551616) (h : i + 64 < wid f) (hw : wid f ≤ 128) :
    Calls Tryd.prog 45 #[.agg #[.int .i64 f, .int .u64 hi, .int .u64 lo], .int .i64 i] w fun e w' => e = .returned (.bool (hi.testBit (wid f - 1 - i - 64))) ∧ Below w.heap.size w w' := by
  obtain ⟨m, hm⟩ : ∃ m, wid f = m := ⟨_, rfl⟩
  have HM := Lib.hid hm
  rw [hm] at h hw ⊢
  clear hm
  obtain ⟨k, hk⟩ : ∃ k : Nat, m - 1 - i - 64 = k := ⟨_, rfl⟩
  obtain rfl : m = k + 65 + i := by omega
  rw [hk]
  clear hk
  have hg : (64 : Int) ≤ (k : Int) + 65 + (i : Int) - 1 - (i : Int) := by omega
  go_enter Tryd.func45, Tryd.ntmps45
  go_wp2_with fail
  refine (rbits_any f _).mono ?_
  rintro e w1 ⟨rfl, rfl⟩
  rw [HM.out]
  go_wp2
  go_ret
  exact ⟨ret_bool (and1 _ _ hh), (Below.refl _ _).alloc (Nat.le_refl _) _⟩
theorem rbit_0 (f : Int) (hi lo : Nat) (i : Nat) (w : World) (hh : lo < 18446744073709551616) (h : i < wid f) (h2 : wid f ≤ i + 64) (hw : wid f ≤ 128) :
    Calls Tryd.prog 45 #[.agg #[.int .i64 f, .int .u64 hi, .int .u64 lo], .int .i64 i] w fun e w' => e = .returned (.bool (lo.testBit (wid f - 1 - i))) ∧ Below w.heap.size w w' := by
  obtain ⟨m, hm⟩ : ∃ m, wid f = m := ⟨_, rfl⟩
  have HM := Lib.hid hm
  rw [hm] at h h2 hw ⊢
  clear hm
  obtain ⟨k, hk⟩ : ∃ k : Nat, m - 1 - i = k := ⟨_, rfl⟩
  obtain rfl : m = k + 1 + i := by omega
  rw [hk]
  clear hk
  have hg : ¬ (64 : Int) ≤ (k : Int) + 1 + (i : Int) - 1 - (i : Int) := by omega
  go_enter Tryd.func45, Tryd.ntmps45
  go_wp2_with fail
  refine (rbits_any f _).mono ?_
  rintro e w1 ⟨rfl, rfl⟩
  rw [HM.out]
  go_wp2
  go_ret
  exact ⟨ret_bool (and1 _ _ hh), (Below.refl _ _).alloc (Nat.le_refl _) _⟩
theorem rbit_any (f : Int) (hi lo : Nat) (i : Nat) (w : World) (hh : hi < 18446744073709551616) (hl : lo < 18446744073709551616) (hv : vA f hi lo = true) (h : i < wid f) :
    Calls Tryd.prog 45 #[.agg #[.int .i64 f, .int .u64 hi, .int .u64 lo], .int .i64 i] w fun e w' => e = .returned (.bool (bitAt f hi lo i)) ∧ Below w.heap.size w w' := by
  rcases (vA_iff f hi lo).1 hv with rfl | ⟨rfl, rfl, -⟩
  · have h6 : i < 128 := h
    rw [bit6 hi lo i hl h6]
    by_cases c : 64 ≤ 127 - i
    · rw [if_pos c]
      exact rbit_64 6 hi lo i w hh (show i + 64 < 128 by omega) (Nat.le_refl _)
    · rw [if_neg c]
      exact rbit_0 6 hi lo i w hl h (show 128 ≤ i + 64 by omega) (Nat.le_refl _)
  · rw [bit4]
    exact rbit_0 4 0 lo i w hl h (show 32 ≤ i + 64 by omega) (show 32 ≤ 128 by omega)

end Go.Proofs.YtnodiejfhkjliaaDoor.Pf
