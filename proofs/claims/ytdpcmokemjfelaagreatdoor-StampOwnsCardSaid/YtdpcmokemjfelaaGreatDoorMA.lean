/- Contracts of the small functions of prefixes: an address, a width, the low bits, the same. Contract: a bit of an address, by the reference. Contracts: a valid prefix, a held address, by the reference. Contracts: a valid prefix for every number of bits; a held address; by the reference. Contract: a held address, by the reference. -/
import Derived.Test.YtdpcmokemjfelaaGreatDoorProg
import Derived.Test.YtdpcmokemjfelaaGreatDoorWords
import Derived.Test.YtdpcmokemjfelaaGreatDoorPrefixPlain
import Derived.WalkKit
import Derived.OwnWalk
import Derived.WalkLawsBesides
import Derived.WalkSpells
import Derived.Outline
import Derived.BigCall
import Derived.Lib.Hide
import Derived.Laws.Bits64
import Derived.Laws.BitsAllLaws
namespace Go.Proofs.YtdpcmokemjfelaaGreatDoor.Pf
open Go.RowKit Go.Proofs.YtdpcmokemjfelaaGreatDoor.Wd Go.Proofs.YtdpcmokemjfelaaGreatDoor.Px

theorem two (w : World) (o o' : Obj) : Below w.heap.size w ((w.alloc o).alloc o') := ((Below.refl _ _).alloc (Nat.le_refl _) o).alloc (by simp) o'

def samA (f : Int) (hi lo : Nat) (f' : Int) (hi' lo' : Nat) : Bool := decide (f = f' ∧ hi = hi' ∧ lo = lo')
theorem sama_any (f f' : Int) (hi lo hi' lo' : Nat) (w : World) :
    Calls Tryz.prog 152 #[.agg #[.int .i64 f, .int .u64 hi, .int .u64 lo], .agg #[.int .i64 f', .int .u64 hi', .int .u64 lo']] w fun e w' => e = .returned (.bool (samA f hi lo f' hi' lo')) ∧ Below w.heap.size w w' := by
  go_enter Tryz.func152, Tryz.ntmps152
  go_wp2
  all_goals go_ret
  all_goals exact ⟨ret_bool (by rw [Bool.eq_iff_iff]; simp [samA] <;> omega), two _ _ _⟩

theorem ones_eq (k : Nat) (hk : k ≤ 64) : IntKind.u64.wrap (IntKind.u64.wrap (2 ^ k) - 1) = ((2 ^ k - 1 : Nat) : Int) := by
  have hc : ((2 : Int) ^ k) = ((2 ^ k : Nat) : Int) := by simp
  by_cases h : k = 64
  · subst h; rfl
  · have h1 : 2 ^ k ≤ 2 ^ 63 := Nat.pow_le_pow_right (by omega) (by omega)
    have h2 : 0 < 2 ^ k := Nat.two_pow_pos k
    rw [hc, IntKind.wrap_u64, IntKind.wrap_u64]
    generalize 2 ^ k = x at h1 h2
    omega
theorem samp_any (f f' : Int) (hi lo hi' lo' : Nat) (b b' : Int) (w : World) :
    Calls Tryz.prog 137 #[.agg #[.int .i64 f, .int .u64 hi, .int .u64 lo, .int .i64 b], .agg #[.int .i64 f', .int .u64 hi', .int .u64 lo', .int .i64 b']] w fun e w' => e = .returned (.bool (samA f hi lo f' hi' lo' && decide (b = b'))) ∧ Below w.heap.size w w' := by
  cases hS : samA f hi lo f' hi' lo'
  · have HS := Lib.hid hS
    clear hS
    go_enter Tryz.func137, Tryz.ntmps137
    go_wp2_with fail
    refine (sama_any f f' hi lo hi' lo' _).mono ?_
    rintro e w1 ⟨rfl, hb⟩
    rw [HS.out]
    have c0 := keepc hb (b := w.heap.size) (o := 3) (v := .int .i64 b) (by go_simp)
    have c1 := keepc hb (b := w.heap.size + 1) (o := 3) (v := .int .i64 b') (by go_simp)
    have bl := (two w (.cells #[.int .i64 f, .int .u64 hi, .int .u64 lo, .int .i64 b] 113) (.cells #[.int .i64 f', .int .u64 hi', .int .u64 lo', .int .i64 b'] 113)).trans (hb.mono (by simp; omega))
    clear hb
    go_wp2
    go_ret
    exact ⟨ret_bool (by rw [Bool.eq_iff_iff]; simp), bl⟩
  · have HS := Lib.hid hS
    clear hS
    go_enter Tryz.func137, Tryz.ntmps137
    go_wp2_with fail
    refine (sama_any f f' hi lo hi' lo' _).mono ?_
    rintro e w1 ⟨rfl, hb⟩
    rw [HS.out]
    have c0 := keepc hb (b := w.heap.size) (o := 3) (v := .int .i64 b) (by go_simp)
    have c1 := keepc hb (b := w.heap.size + 1) (o := 3) (v := .int .i64 b') (by go_simp)
    have bl := (two w (.cells #[.int .i64 f, .int .u64 hi, .int .u64 lo, .int .i64 b] 113) (.cells #[.int .i64 f', .int .u64 hi', .int .u64 lo', .int .i64 b'] 113)).trans (hb.mono (by simp; omega))
    clear hb
    go_wp2
    go_ret
    exact ⟨ret_bool (by rw [Bool.eq_iff_iff]; simp), bl⟩

end Go.Proofs.YtdpcmokemjfelaaGreatDoor.Pf

namespace Go.Proofs.YtdpcmokemjfelaaGreatDoor.Pf
open Go.RowKit Go.Proofs.YtdpcmokemjfelaaGreatDoor.Wd Go.Proofs.YtdpcmokemjfelaaGreatDoor.Px

theorem bit6 (hi lo i : Nat) (hl : lo < 18446744073709551616) (h : i < 128) : bitAt 6 hi lo i = if 64 ≤ 127 - i then hi.testBit (127 - i - 64) else lo.testBit (127 - i) := by
  have e : num 6 hi lo = 2 ^ 64 * hi + lo := by simp [num]; omega
  have ew : wid 6 = 128 := rfl
  unfold bitAt
  rw [e, ew, show 128 - 1 - i = 127 - i by omega, Nat.testBit_two_pow_mul_add _ hl]
  by_cases c : 127 - i < 64
  · rw [if_pos c, if_neg (by omega)]
  · rw [if_neg c, if_pos (by omega)]
theorem bit4 (hi lo i : Nat) : bitAt 4 hi lo i = lo.testBit (31 - i) := rfl

theorem and1 (x k : Nat) (hx : x < 18446744073709551616) : (bits .and .u64 ((x : Int) / 2 ^ k) 1 == 1) = x.testBit k := by
  have e : ((x : Int) / 2 ^ k) = ((x / 2 ^ k : Nat) : Int) := by simp
  have h := u64_and_nat (x / 2 ^ k) 1 (Nat.lt_of_le_of_lt (Nat.div_le_self ..) hx) (by omega)
  rw [e, show ((1 : Int)) = ((1 : Nat) : Int) from rfl, h, Nat.and_one_is_mod, Nat.testBit_eq_decide_div_mod_eq, Bool.eq_iff_iff]
  generalize x / 2 ^ k = y
  simp
  omega

end Go.Proofs.YtdpcmokemjfelaaGreatDoor.Pf

namespace Go.Proofs.YtdpcmokemjfelaaGreatDoor.Pf
open Go.RowKit Go.Proofs.YtdpcmokemjfelaaGreatDoor.Wd Go.Proofs.YtdpcmokemjfelaaGreatDoor.Px

/-- a prefix in a block of its own -/
structure PB (w : World) (B : Nat) (f : Int) (hi lo : Nat) (b : Int) : Prop where
  c0 : w.cell? ⟨B, 0, none⟩ = some (.int .i64 f)
  c1 : w.cell? ⟨B, 1, none⟩ = some (.int .u64 hi)
  c2 : w.cell? ⟨B, 2, none⟩ = some (.int .u64 lo)
  c3 : w.cell? ⟨B, 3, none⟩ = some (.int .i64 b)
theorem PB.on {w w' : World} {B : Nat} {f : Int} {hi lo : Nat} {b : Int} (h : PB w B f hi lo b) (hb : Below w.heap.size w w') : PB w' B f hi lo b :=
  ⟨keepc hb h.c0, keepc hb h.c1, keepc hb h.c2, keepc hb h.c3⟩
theorem pb_new (w : World) (f : Int) (hi lo : Nat) (b : Int) (t : TypeId) : PB (w.alloc (.cells #[.int .i64 f, .int .u64 hi, .int .u64 lo, .int .i64 b] t)) w.heap.size f hi lo b := by
  constructor
  all_goals (rw [World.cell?_alloc_at _ _ _ _ rfl]; rfl)

theorem wid_le (f : Int) : wid f ≤ 128 := by unfold wid; split <;> (try split) <;> omega
theorem one (w : World) (o : Obj) : Below w.heap.size w (w.alloc o) := (Below.refl _ _).alloc (Nat.le_refl _) o

end Go.Proofs.YtdpcmokemjfelaaGreatDoor.Pf

namespace Go.Proofs.YtdpcmokemjfelaaGreatDoor.Pf
open Go.RowKit Go.Proofs.YtdpcmokemjfelaaGreatDoor.Wd Go.Proofs.YtdpcmokemjfelaaGreatDoor.Px

end Go.Proofs.YtdpcmokemjfelaaGreatDoor.Pf

namespace Go.Proofs.YtdpcmokemjfelaaGreatDoor.Pf
open Go.RowKit Go.Proofs.YtdpcmokemjfelaaGreatDoor.Wd Go.Proofs.YtdpcmokemjfelaaGreatDoor.Px

/-- an address in a block of its own -/
structure AB (w : World) (B : Nat) (f : Int) (hi lo : Nat) : Prop where
  c0 : w.cell? ⟨B, 0, none⟩ = some (.int .i64 f)
  c1 : w.cell? ⟨B, 1, none⟩ = some (.int .u64 hi)
  c2 : w.cell? ⟨B, 2, none⟩ = some (.int .u64 lo)
theorem AB.on {w w' : World} {B : Nat} {f : Int} {hi lo : Nat} (h : AB w B f hi lo) (hb : Below w.heap.size w w') : AB w' B f hi lo :=
  ⟨keepc hb h.c0, keepc hb h.c1, keepc hb h.c2⟩
theorem ab_new (w : World) (f : Int) (hi lo : Nat) (t : TypeId) : AB (w.alloc (.cells #[.int .i64 f, .int .u64 hi, .int .u64 lo] t)) w.heap.size f hi lo := by
  constructor
  all_goals (rw [World.cell?_alloc_at _ _ _ _ rfl]; rfl)

def hld (f : Int) (hi lo : Nat) (b : Int) (f' : Int) (hi' lo' : Nat) : Bool :=
  vP f hi lo b && (vA f' hi' lo' && (decide (f = f') && decide (num f hi lo / 2 ^ (wid f - b.toNat) = num f' hi' lo' / 2 ^ (wid f - b.toNat))))
theorem hld_iff (f : Int) (hi lo : Nat) (b : Int) (f' : Int) (hi' lo' : Nat) : hld f hi lo b f' hi' lo' = true ↔
    vP f hi lo b = true ∧ vA f' hi' lo' = true ∧ f = f' ∧ num f hi lo / 2 ^ (wid f - b.toNat) = num f' hi' lo' / 2 ^ (wid f - b.toNat) := by simp [hld]

theorem two_bools {X Y : Bool} (h : ¬ X = Y) : (X = false ∧ Y = true) ∨ (X = true ∧ Y = false) := by cases X <;> cases Y <;> simp_all
theorem hld_bit {f : Int} {hi lo b hi' lo' k : Nat} (hb : b ≤ wid f) (hv : vA f hi lo = true) (hv' : vA f hi' lo' = true) (hh : hi < 18446744073709551616) (hl : lo < 18446744073709551616) (hh' : hi' < 18446744073709551616) (hl' : lo' < 18446744073709551616)
    (hk : k < b) (hne : bitAt f hi lo k ≠ bitAt f hi' lo' k) : hld f hi lo b f hi' lo' = false := by
  rw [← Bool.not_eq_true, hld_iff]
  rintro ⟨-, -, -, h⟩
  rw [Int.toNat_natCast, holds_bits hb (num_lt hv hh hl) (num_lt hv' hh' hl')] at h
  exact hne (h k hk)
end Go.Proofs.YtdpcmokemjfelaaGreatDoor.Pf
