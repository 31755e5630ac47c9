/- Contracts of the small functions of prefixes: an address, a width, the low bits, the same. -/
import Derived.Test.YtnodiejfhkjliaaDoorProg
import Derived.Test.YtnodiejfhkjliaaDoorWords
import Derived.Test.YtnodiejfhkjliaaDoorPrefixPlain
import Derived.WalkKit
import Derived.OwnWalk
import Derived.WalkLawsBesides
import Derived.WalkSpells
import Derived.Outline
import Derived.BigCall
import Derived.Lib.Hide
import Derived.Laws.Bits64
namespace Go.Proofs.YtnodiejfhkjliaaDoor.Pf
open Go.RowKit Go.Proofs.YtnodiejfhkjliaaDoor.Wd Go.Proofs.YtnodiejfhkjliaaDoor.Px

theorem two (w : World) (o o' : Obj) : Below w.heap.size w ((w.alloc o).alloc o') := ((Below.refl _ _).alloc (Nat.le_refl _) o).alloc (by simp) o'

theorem vaddr_any (f : Int) (hi lo : Nat) (w : World) :
    Calls Tryd.prog 13 #[.agg #[.int .i64 f, .int .u64 hi, .int .u64 lo]] w fun e w' => e = .returned (.bool (vA f hi lo)) ∧ Below w.heap.size w w' := by
  go_enter Tryd.func13, Tryd.ntmps13
  go_wp2
  all_goals go_ret
  all_goals exact ⟨ret_bool (by rw [Bool.eq_iff_iff, vA_iff]; simp <;> omega), (Below.refl _ _).alloc (Nat.le_refl _) _⟩
theorem rvaddr_any (f : Int) (hi lo : Nat) (w : World) :
    Calls Tryd.prog 14 #[.agg #[.int .i64 f, .int .u64 hi, .int .u64 lo]] w fun e w' => e = .returned (.bool (vA f hi lo)) ∧ Below w.heap.size w w' := by
  go_enter Tryd.func14, Tryd.ntmps14
  go_wp2
  all_goals go_ret
  all_goals exact ⟨ret_bool (by rw [Bool.eq_iff_iff, vA_iff]; simp <;> omega), (Below.refl _ _).alloc (Nat.le_refl _) _⟩
theorem width_any (f : Int) (w : World) :
    Calls Tryd.prog 42 #[.int .i64 f] w fun e w' => e = .returned (.int .i64 (wid f)) ∧ w' = w := by
  by_cases h4 : f = 4
  · obtain rfl : f = 4 := h4
    go_enter Tryd.func42, Tryd.ntmps42
    go_wp2
    go_ret
    exact ⟨rfl, rfl⟩
  · by_cases h6 : f = 6
    · obtain rfl : f = 6 := h6
      go_enter Tryd.func42, Tryd.ntmps42
      go_wp2
      go_ret
      exact ⟨rfl, rfl⟩
    · have e4 : (f == 4) = false := by simpa using h4
      have e6 : (f == 6) = false := by simpa using h6
      rw [show wid f = 0 by unfold wid; rw [if_neg h4, if_neg h6]]
      clear h4 h6
      go_enter Tryd.func42, Tryd.ntmps42
      go_wp2
      go_ret
      exact ⟨rfl, rfl⟩
theorem rbits_any (f : Int) (w : World) :
    Calls Tryd.prog 44 #[.int .i64 f] w fun e w' => e = .returned (.int .i64 (wid f)) ∧ w' = w := by
  by_cases h4 : f = 4
  · obtain rfl : f = 4 := h4
    go_enter Tryd.func44, Tryd.ntmps44
    go_wp2
    go_ret
    exact ⟨rfl, rfl⟩
  · by_cases h6 : f = 6
    · obtain rfl : f = 6 := h6
      go_enter Tryd.func44, Tryd.ntmps44
      go_wp2
      go_ret
      exact ⟨rfl, rfl⟩
    · have e4 : (f == 4) = false := by simpa using h4
      have e6 : (f == 6) = false := by simpa using h6
      rw [show wid f = 0 by unfold wid; rw [if_neg h4, if_neg h6]]
      clear h4 h6
      go_enter Tryd.func44, Tryd.ntmps44
      go_wp2
      go_ret
      exact ⟨rfl, rfl⟩

def samA (f : Int) (hi lo : Nat) (f' : Int) (hi' lo' : Nat) : Bool := decide (f = f' ∧ hi = hi' ∧ lo = lo')
theorem sama_any (f f' : Int) (hi lo hi' lo' : Nat) (w : World) :
    Calls Tryd.prog 33 #[.agg #[.int .i64 f, .int .u64 hi, .int .u64 lo], .agg #[.int .i64 f', .int .u64 hi', .int .u64 lo']] w fun e w' => e = .returned (.bool (samA f hi lo f' hi' lo')) ∧ Below w.heap.size w w' := by
  go_enter Tryd.func33, Tryd.ntmps33
  go_wp2
  all_goals go_ret
  all_goals exact ⟨ret_bool (by rw [Bool.eq_iff_iff]; simp [samA] <;> omega), two _ _ _⟩

theorem ones_eq (k : Nat) (hk : k ≤ 64) : IntKind.u64.wrap (IntKind.u64.wrap (2 ^ k) - 1) = ((2 ^ k - 1 : Nat) : Int) := by
  have hc : ((2 : Int) ^ k) = ((2 ^ k : Nat) : Int) := by simp
  by_cases h : k = 64
  · subst h; rfl
  · have h1 : 2 ^ k ≤ 2 ^ 63 := Nat.pow_le_pow_right (by omega) (by omega)
    have h2 : 0 < 2 ^ k := Nat.two_pow_pos k
    rw [hc, IntKind.wrap_u64, IntKind.wrap_u64]
    generalize 2 ^ k = x at h1 h2
    omega
theorem ones_any (k : Nat) (hk : k ≤ 64) (w : World) :
    Calls Tryd.prog 70 #[.int .i64 k] w fun e w' => e = .returned (.int .u64 ((2 ^ k - 1 : Nat) : Int)) ∧ w' = w := by
  go_enter Tryd.func70, Tryd.ntmps70
  go_wp2
  go_ret
  exact ⟨ret_int (ones_eq k hk), rfl⟩

theorem samp_any (f f' : Int) (hi lo hi' lo' : Nat) (b b' : Int) (w : World) :
    Calls Tryd.prog 34 #[.agg #[.int .i64 f, .int .u64 hi, .int .u64 lo, .int .i64 b], .agg #[.int .i64 f', .int .u64 hi', .int .u64 lo', .int .i64 b']] w fun e w' => e = .returned (.bool (samA f hi lo f' hi' lo' && decide (b = b'))) ∧ Below w.heap.size w w' := by
  cases hS : samA f hi lo f' hi' lo'
  · have HS := Lib.hid hS
    clear hS
    go_enter Tryd.func34, Tryd.ntmps34
    go_wp2_with fail
    refine (sama_any f f' hi lo hi' lo' _).mono ?_
    rintro e w1 ⟨rfl, hb⟩
    rw [HS.out]
    have c0 := keepc hb (b := w.heap.size) (o := 3) (v := .int .i64 b) (by go_simp)
    have c1 := keepc hb (b := w.heap.size + 1) (o := 3) (v := .int .i64 b') (by go_simp)
    have bl := (two w (.cells #[.int .i64 f, .int .u64 hi, .int .u64 lo, .int .i64 b] 26) (.cells #[.int .i64 f', .int .u64 hi', .int .u64 lo', .int .i64 b'] 26)).trans (hb.mono (by simp; omega))
    clear hb
    go_wp2
    go_ret
    exact ⟨ret_bool (by rw [Bool.eq_iff_iff]; simp), bl⟩
  · have HS := Lib.hid hS
    clear hS
    go_enter Tryd.func34, Tryd.ntmps34
    go_wp2_with fail
    refine (sama_any f f' hi lo hi' lo' _).mono ?_
    rintro e w1 ⟨rfl, hb⟩
    rw [HS.out]
    have c0 := keepc hb (b := w.heap.size) (o := 3) (v := .int .i64 b) (by go_simp)
    have c1 := keepc hb (b := w.heap.size + 1) (o := 3) (v := .int .i64 b') (by go_simp)
    have bl := (two w (.cells #[.int .i64 f, .int .u64 hi, .int .u64 lo, .int .i64 b] 26) (.cells #[.int .i64 f', .int .u64 hi', .int .u64 lo', .int .i64 b'] 26)).trans (hb.mono (by simp; omega))
    clear hb
    go_wp2
    go_ret
    exact ⟨ret_bool (by rw [Bool.eq_iff_iff]; simp), bl⟩

end Go.Proofs.YtnodiejfhkjliaaDoor.Pf
