/- Contracts of the small functions of prefixes: an address, a width, the low bits, the same. Contract: a bit of an address, by the reference. Contracts: a valid prefix, a held address, by the reference. Contracts: a valid prefix for every number of bits; a held address; by the reference. Contract: a held address, by the reference. -/
import Derived.Test.YtpkmekdpmkfcdaaGreatDoorProg
import Derived.Test.YtpkmekdpmkfcdaaGreatDoorWords
import Derived.Test.YtpkmekdpmkfcdaaGreatDoorPrefixPlain
import Derived.WalkKit
import Derived.OwnWalk
import Derived.WalkLawsBesides
import Derived.WalkSpells
import Derived.Outline
import Derived.BigCall
import Derived.Lib.Hide
import Derived.Laws.Bits64
import Derived.Laws.BitsAllLaws
namespace Go.Proofs.YtpkmekdpmkfcdaaGreatDoor.Pf
open Go.RowKit Go.Proofs.YtpkmekdpmkfcdaaGreatDoor.Wd Go.Proofs.YtpkmekdpmkfcdaaGreatDoor.Px
theorem two (w : World) (o o' : Obj) : Below w.heap.size w ((w.alloc o).alloc o') := ((Below.refl _ _).alloc (Nat.le_refl _) o).alloc (by simp) o'
theorem vaddr_any (f : Int) (hi lo : Nat) (w : World) :
  Calls Tryz.prog 155 #[.agg #[.int .i64 f,.int .u64 hi,.int .u64 lo]] w fun e w' => e = .returned (.bool (vA f hi lo)) ∧ Below w.heap.size w w' := by
 go_enter Tryz.func155,Tryz.ntmps155
 go_wp2
 all_goals go_ret
 all_goals exact ⟨ret_bool (by rw [Bool.eq_iff_iff,vA_iff];simp <;> omega),(Below.refl _ _).alloc (Nat.le_refl _) _⟩
theorem rvaddr_any (f : Int) (hi lo : Nat) (w : World) :
  Calls Tryz.prog 237 #[.agg #[.int .i64 f,.int .u64 hi,.int .u64 lo]] w fun e w' => e = .returned (.bool (vA f hi lo)) ∧ Below w.heap.size w w' := by
 go_enter Tryz.func237,Tryz.ntmps237
 go_wp2
 all_goals go_ret
 all_goals exact ⟨ret_bool (by rw [Bool.eq_iff_iff,vA_iff];simp <;> omega),(Below.refl _ _).alloc (Nat.le_refl _) _⟩
theorem width_any (f : Int) (w : World) :
  Calls Tryz.prog 156 #[.int .i64 f] w fun e w' => e = .returned (.int .i64 (wid f)) ∧ w' = w := by
 by_cases h4 : f = 4
 ·obtain rfl : f = 4 := h4
  go_enter Tryz.func156,Tryz.ntmps156
  go_wp2
  go_ret
  exact ⟨rfl,rfl⟩
 ·by_cases h6 : f = 6
  ·obtain rfl : f = 6 := h6
   go_enter Tryz.func156,Tryz.ntmps156
   go_wp2
   go_ret
   exact ⟨rfl,rfl⟩
  ·have e4 : (f == 4) = false := by simpa using h4
   have e6 : (f == 6) = false := by simpa using h6
   rw [show wid f = 0 by unfold wid;rw [if_neg h4,if_neg h6]]
   clear h4 h6
   go_enter Tryz.func156,Tryz.ntmps156
   go_wp2
   go_ret
   exact ⟨rfl,rfl⟩
theorem rbits_any (f : Int) (w : World) :
  Calls Tryz.prog 238 #[.int .i64 f] w fun e w' => e = .returned (.int .i64 (wid f)) ∧ w' = w := by
 by_cases h4 : f = 4
 ·obtain rfl : f = 4 := h4
  go_enter Tryz.func238,Tryz.ntmps238
  go_wp2
  go_ret
  exact ⟨rfl,rfl⟩
 ·by_cases h6 : f = 6
  ·obtain rfl : f = 6 := h6
   go_enter Tryz.func238,Tryz.ntmps238
   go_wp2
   go_ret
   exact ⟨rfl,rfl⟩
  ·have e4 : (f == 4) = false := by simpa using h4
   have e6 : (f == 6) = false := by simpa using h6
   rw [show wid f = 0 by unfold wid;rw [if_neg h4,if_neg h6]]
   clear h4 h6
   go_enter Tryz.func238,Tryz.ntmps238
   go_wp2
   go_ret
   exact ⟨rfl,rfl⟩
theorem ones_eq (k : Nat) (hk : k ≤ 64) : IntKind.u64.wrap (IntKind.u64.wrap (2 ^ k) - 1) = ((2 ^ k - 1 : Nat) : Int) := by
 have hc : ((2 : Int) ^ k) = ((2 ^ k : Nat) : Int) := by simp
 by_cases h : k = 64
 ·subst h;rfl
 ·have h1 : 2 ^ k ≤ 2 ^ 63 := Nat.pow_le_pow_right (by omega) (by omega)
  have h2 : 0 < 2 ^ k := Nat.two_pow_pos k
  rw [hc,IntKind.wrap_u64,IntKind.wrap_u64]
  generalize 2 ^ k = x at h1 h2
  omega
theorem ones_any (k : Nat) (hk : k ≤ 64) (w : World) :
  Calls Tryz.prog 233 #[.int .i64 k] w fun e w' => e = .returned (.int .u64 ((2 ^ k - 1 : Nat) : Int)) ∧ w' = w := by
 go_enter Tryz.func233,Tryz.ntmps233
 go_wp2
 go_ret
 exact ⟨ret_int (ones_eq k hk),rfl⟩
end Go.Proofs.YtpkmekdpmkfcdaaGreatDoor.Pf
namespace Go.Proofs.YtpkmekdpmkfcdaaGreatDoor.Pf
open Go.RowKit Go.Proofs.YtpkmekdpmkfcdaaGreatDoor.Wd Go.Proofs.YtpkmekdpmkfcdaaGreatDoor.Px
theorem bit6 (hi lo i : Nat) (hl : lo < 18446744073709551616) (h : i < 128) : bitAt 6 hi lo i = if 64 ≤ 127 - i then hi.testBit (127 - i - 64) else lo.testBit (127 - i) := by
 have e : num 6 hi lo = 2 ^ 64 * hi + lo := by simp [num];omega
 have ew : wid 6 = 128 := rfl
 unfold bitAt
 rw [e,ew,show 128 - 1 - i = 127 - i by omega,Nat.testBit_two_pow_mul_add _ hl]
 by_cases c : 127 - i < 64
 ·rw [if_pos c,if_neg (by omega)]
 ·rw [if_neg c,if_pos (by omega)]
theorem bit4 (hi lo i : Nat) : bitAt 4 hi lo i = lo.testBit (31 - i) := rfl
theorem and1 (x k : Nat) (hx : x < 18446744073709551616) : (bits .and .u64 ((x : Int) / 2 ^ k) 1 == 1) = x.testBit k := by
 have e : ((x : Int) / 2 ^ k) = ((x / 2 ^ k : Nat) : Int) := by simp
 have h := u64_and_nat (x / 2 ^ k) 1 (Nat.lt_of_le_of_lt (Nat.div_le_self ..) hx) (by omega)
 rw [e,show ((1 : Int)) = ((1 : Nat) : Int) from rfl,h,Nat.and_one_is_mod,Nat.testBit_eq_decide_div_mod_eq,Bool.eq_iff_iff]
 generalize x / 2 ^ k = y
 simp
 omega
theorem rbit_64 (f : Int) (hi lo : Nat) (i : Nat) (w : World) (hh : hi < 18446744073709551616) (h : i + 64 < wid f) (hw : wid f ≤ 128) :
  Calls Tryz.prog 239 #[.agg #[.int .i64 f,.int .u64 hi,.int .u64 lo],.int .i64 i] w fun e w' => e = .returned (.bool (hi.testBit (wid f - 1 - i - 64))) ∧ Below w.heap.size w w' := by
 obtain ⟨m,hm⟩ : ∃ m,wid f = m := ⟨_,rfl⟩
 have HM := Lib.hid hm
 rw [hm] at h hw ⊢
 clear hm
 obtain ⟨k,hk⟩ : ∃ k : Nat,m - 1 - i - 64 = k := ⟨_,rfl⟩
 obtain rfl : m = k + 65 + i := by omega
 rw [hk]
 clear hk
 have hg : (64 : Int) ≤ (k : Int) + 65 + (i : Int) - 1 - (i : Int) := by omega
 go_enter Tryz.func239,Tryz.ntmps239
 go_wp2_with fail
 refine (rbits_any f _).mono ?_
 rintro e w1 ⟨rfl,rfl⟩
 rw [HM.out]
 go_wp2
 go_ret
 exact ⟨ret_bool (and1 _ _ hh),(Below.refl _ _).alloc (Nat.le_refl _) _⟩
theorem rbit_0 (f : Int) (hi lo : Nat) (i : Nat) (w : World) (hh : lo < 18446744073709551616) (h : i < wid f) (h2 : wid f ≤ i + 64) (hw : wid f ≤ 128) :
  Calls Tryz.prog 239 #[.agg #[.int .i64 f,.int .u64 hi,.int .u64 lo],.int .i64 i] w fun e w' => e = .returned (.bool (lo.testBit (wid f - 1 - i))) ∧ Below w.heap.size w w' := by
 obtain ⟨m,hm⟩ : ∃ m,wid f = m := ⟨_,rfl⟩
 have HM := Lib.hid hm
 rw [hm] at h h2 hw ⊢
 clear hm
 obtain ⟨k,hk⟩ : ∃ k : Nat,m - 1 - i = k := ⟨_,rfl⟩
 obtain rfl : m = k + 1 + i := by omega
 rw [hk]
 clear hk
 have hg : ¬ (64 : Int) ≤ (k : Int) + 1 + (i : Int) - 1 - (i : Int) := by omega
 go_enter Tryz.func239,Tryz.ntmps239
 go_wp2_with fail
 refine (rbits_any f _).mono ?_
 rintro e w1 ⟨rfl,rfl⟩
 rw [HM.out]
 go_wp2
 go_ret
 exact ⟨ret_bool (and1 _ _ hh),(Below.refl _ _).alloc (Nat.le_refl _) _⟩
theorem rbit_any (f : Int) (hi lo : Nat) (i : Nat) (w : World) (hh : hi < 18446744073709551616) (hl : lo < 18446744073709551616) (hv : vA f hi lo = true) (h : i < wid f) :
  Calls Tryz.prog 239 #[.agg #[.int .i64 f,.int .u64 hi,.int .u64 lo],.int .i64 i] w fun e w' => e = .returned (.bool (bitAt f hi lo i)) ∧ Below w.heap.size w w' := by
 rcases (vA_iff f hi lo).1 hv with rfl | ⟨rfl,rfl,-⟩
 ·have h6 : i < 128 := h
  rw [bit6 hi lo i hl h6]
  by_cases c : 64 ≤ 127 - i
  ·rw [if_pos c]
   exact rbit_64 6 hi lo i w hh (show i + 64 < 128 by omega) (Nat.le_refl _)
  ·rw [if_neg c]
   exact rbit_0 6 hi lo i w hl h (show 128 ≤ i + 64 by omega) (Nat.le_refl _)
 ·rw [bit4]
  exact rbit_0 4 0 lo i w hl h (show 32 ≤ i + 64 by omega) (show 32 ≤ 128 by omega)
end Go.Proofs.YtpkmekdpmkfcdaaGreatDoor.Pf
namespace Go.Proofs.YtpkmekdpmkfcdaaGreatDoor.Pf
open Go.RowKit Go.Proofs.YtpkmekdpmkfcdaaGreatDoor.Wd Go.Proofs.YtpkmekdpmkfcdaaGreatDoor.Px
/-- a prefix in a block of its own -/
structure PB (w : World) (B : Nat) (f : Int) (hi lo : Nat) (b : Int) : Prop where
 c0 : w.cell? ⟨B,0,none⟩ = some (.int .i64 f)
 c1 : w.cell? ⟨B,1,none⟩ = some (.int .u64 hi)
 c2 : w.cell? ⟨B,2,none⟩ = some (.int .u64 lo)
 c3 : w.cell? ⟨B,3,none⟩ = some (.int .i64 b)
theorem PB.on {w w' : World} {B : Nat} {f : Int} {hi lo : Nat} {b : Int} (h : PB w B f hi lo b) (hb : Below w.heap.size w w') : PB w' B f hi lo b :=
 ⟨keepc hb h.c0,keepc hb h.c1,keepc hb h.c2,keepc hb h.c3⟩
theorem pb_new (w : World) (f : Int) (hi lo : Nat) (b : Int) (t : TypeId) : PB (w.alloc (.cells #[.int .i64 f,.int .u64 hi,.int .u64 lo,.int .i64 b] t)) w.heap.size f hi lo b := by
 constructor
 all_goals (rw [World.cell?_alloc_at _ _ _ _ rfl];rfl)
theorem wid_le (f : Int) : wid f ≤ 128 := by unfold wid;split <;> (try split) <;> omega
theorem one (w : World) (o : Obj) : Below w.heap.size w (w.alloc o) := (Below.refl _ _).alloc (Nat.le_refl _) o
set_option maxRecDepth 20000 in
set_option maxHeartbeats 2000000 in
theorem rvalid_loop (f : Int) (hi lo b : Nat) (w : World) (hh : hi < 18446744073709551616) (hl : lo < 18446744073709551616) (hv : vA f hi lo = true) (hb : b ≤ wid f) :
  Calls Tryz.prog 161 #[.agg #[.int .i64 f,.int .u64 hi,.int .u64 lo,.int .i64 b]] w fun e w' => e = .returned (.bool (vP f hi lo b)) ∧ Below w.heap.size w w' := by
 have hw := wid_le f
 have HV := Lib.hid hv
 clear hv
 obtain ⟨n,hn⟩ : ∃ n,wid f = n := ⟨_,rfl⟩
 rw [hn] at hw hb
 have HN := Lib.hid hn
 clear hn
 have hb1 : (b : Int) ≤ (n : Int) := by omega
 have d1 : decide ((b : Int) < 0) = false := by rw [decide_eq_false_iff_not];omega
 have d2 : decide (n < b) = false := by rw [decide_eq_false_iff_not];omega
 have hp := pb_new w f hi lo b 90
 have hbl := one w (.cells #[.int .i64 f,.int .u64 hi,.int .u64 lo,.int .i64 b] 90)
 go_enter Tryz.func161,Tryz.ntmps161
 go_wp2_with fail
 refine (rvaddr_any f hi lo _).mono ?_
 rintro e w1 ⟨rfl,hb2⟩
 rw [HV.out]
 have hp1 := hp.on hb2
 have hbl1 := hbl.trans (hb2.mono hbl.size)
 clear hp hbl hb2
 obtain ⟨e0,e1,e2,e3⟩ := hp1
 go_wp2_with fail
 refine (rbits_any f _).mono ?_
 rintro e w2 ⟨rfl,rfl⟩
 rw [HN.out]
 have hp1 : PB w2 w.heap.size f hi lo b := ⟨e0,e1,e2,e3⟩
 go_wp2
 clear e0 e1 e2 e3
 go_loopw [5] (fun i wr => ∃ k : Nat,b ≤ k ∧ k ≤ n ∧ i = .int .i64 k ∧ PB wr w.heap.size f hi lo b ∧ Below w.heap.size w wr ∧ Hid (∀ j,b ≤ j → j < k → bitAt f hi lo j = false)) (fun i _ => n - (intOf i).toNat)
 case atStart => exact ⟨b,Nat.le_refl _,hb,rfl,hp1,hbl1,Lib.hid fun j h1 h2 => by omega⟩
 case round =>
  obtain ⟨k,hk1,hk2,rfl,hp,hbl,HB⟩ := hrel
  clear hp1 hbl1
  by_cases hlt : k < n
  ·have i1 : (k : Int) < (n : Int) := by omega
   obtain ⟨e0,e1,e2,e3⟩ := hp
   go_wp2_with fail
   refine (rbit_any f hi lo k _ hh hl HV.out (by rw [HN.out];exact hlt)).mono ?_
   rintro e w3 ⟨rfl,hb3⟩
   have hp3 := (PB.mk e0 e1 e2 e3).on hb3
   have hbl3 := hbl.trans (hb3.mono hbl.size)
   clear e0 e1 e2 e3 hb3 hbl
   cases hB : bitAt f hi lo k with
   | true =>
    have HB2 := Lib.hid hB
    clear hB
    go_wp2
    go_ret
    refine ⟨ret_bool ?_,hbl3⟩
    symm
    rw [← Bool.not_eq_true,vP_iff]
    rintro ⟨-,-,-,h⟩
    rw [Int.toNat_natCast,valid_bits (by rw [HN.out];exact hb)] at h
    have := h k hk1 (by rw [HN.out];exact hlt)
    rw [HB2.out] at this
    cases this
   | false =>
    have HB2 := Lib.hid hB
    clear hB
    have HB3 : Hid (∀ j,b ≤ j → j < k + 1 → bitAt f hi lo j = false) := Lib.hid fun j h1 h2 => by
     by_cases hj : j = k
     ·rw [hj];exact HB2.out
     ·exact HB.out j h1 (by omega)
    go_wp2
    go_roundw
    case rel => exact ⟨k + 1,by omega,by omega,by go_num,hp3,hbl3,HB3⟩
    case measure => simp [intOf];omega
  ·obtain rfl : k = n := by omega
   go_wp2
   go_ret
   refine ⟨ret_bool ?_,hbl⟩
   symm
   rw [vP_iff]
   refine ⟨HV.out,by omega,by rw [HN.out];exact hb1,?_⟩
   rw [Int.toNat_natCast,valid_bits (by rw [HN.out];exact hb)]
   intro j h1 h2
   exact HB.out j h1 (by rw [← HN.out];exact h2)
end Go.Proofs.YtpkmekdpmkfcdaaGreatDoor.Pf
namespace Go.Proofs.YtpkmekdpmkfcdaaGreatDoor.Pf
open Go.RowKit Go.Proofs.YtpkmekdpmkfcdaaGreatDoor.Wd Go.Proofs.YtpkmekdpmkfcdaaGreatDoor.Px
set_option maxHeartbeats 2000000 in
theorem rvalid_no (f : Int) (hi lo : Nat) (b : Int) (w : World) (h : vA f hi lo = false ∨ (vA f hi lo = true ∧ (b < 0 ∨ (wid f : Int) < b))) :
  Calls Tryz.prog 161 #[.agg #[.int .i64 f,.int .u64 hi,.int .u64 lo,.int .i64 b]] w fun e w' => e = .returned (.bool false) ∧ Below w.heap.size w w' := by
 obtain ⟨n,hn⟩ : ∃ n,wid f = n := ⟨_,rfl⟩
 rw [hn] at h
 have HN := Lib.hid hn
 clear hn
 have hp := pb_new w f hi lo b 90
 have hbl := one w (.cells #[.int .i64 f,.int .u64 hi,.int .u64 lo,.int .i64 b] 90)
 go_enter Tryz.func161,Tryz.ntmps161
 go_wp2_with fail
 refine (rvaddr_any f hi lo _).mono ?_
 rintro e w1 ⟨rfl,hb2⟩
 have hp1 := hp.on hb2
 have hbl1 := hbl.trans (hb2.mono hbl.size)
 clear hp hbl hb2
 obtain ⟨e0,e1,e2,e3⟩ := hp1
 go_wp2_with fail
 refine (rbits_any f _).mono ?_
 rintro e w2 ⟨rfl,rfl⟩
 rw [HN.out]
 rcases h with h | ⟨hvt,h | h⟩
 ·rw [h]
  clear h
  go_wp2
  go_ret
  exact ⟨rfl,hbl1⟩
 ·rw [hvt]
  go_wp2
  go_ret
  exact ⟨rfl,hbl1⟩
 ·rw [hvt]
  have d1 : decide (b < 0) = false := by rw [decide_eq_false_iff_not];omega
  go_wp2
  go_ret
  exact ⟨rfl,hbl1⟩
theorem rvalid_any (f : Int) (hi lo : Nat) (b : Int) (w : World) (hh : hi < 18446744073709551616) (hl : lo < 18446744073709551616) :
  Calls Tryz.prog 161 #[.agg #[.int .i64 f,.int .u64 hi,.int .u64 lo,.int .i64 b]] w fun e w' => e = .returned (.bool (vP f hi lo b)) ∧ Below w.heap.size w w' := by
 have no : vP f hi lo b = false → (vA f hi lo = false ∨ (vA f hi lo = true ∧ (b < 0 ∨ (wid f : Int) < b))) → Calls Tryz.prog 161 #[.agg #[.int .i64 f,.int .u64 hi,.int .u64 lo,.int .i64 b]] w fun e w' => e = .returned (.bool (vP f hi lo b)) ∧ Below w.heap.size w w' := fun h1 h2 => by
  rw [h1];exact rvalid_no f hi lo b w h2
 cases hv : vA f hi lo with
 | false => exact no (by rw [← Bool.not_eq_true,vP_iff];simp [hv]) (.inl hv)
 | true =>
  by_cases h1 : b < 0
  ·exact no (by rw [← Bool.not_eq_true,vP_iff];omega) (.inr ⟨hv,.inl h1⟩)
  ·by_cases h2 : (wid f : Int) < b
   ·exact no (by rw [← Bool.not_eq_true,vP_iff];omega) (.inr ⟨hv,.inr h2⟩)
   ·obtain ⟨c,rfl⟩ : ∃ c : Nat,b = c := ⟨b.toNat,by omega⟩
    exact rvalid_loop f hi lo c w hh hl hv (by omega)
end Go.Proofs.YtpkmekdpmkfcdaaGreatDoor.Pf
namespace Go.Proofs.YtpkmekdpmkfcdaaGreatDoor.Pf
open Go.RowKit Go.Proofs.YtpkmekdpmkfcdaaGreatDoor.Wd Go.Proofs.YtpkmekdpmkfcdaaGreatDoor.Px
/-- an address in a block of its own -/
structure AB (w : World) (B : Nat) (f : Int) (hi lo : Nat) : Prop where
 c0 : w.cell? ⟨B,0,none⟩ = some (.int .i64 f)
 c1 : w.cell? ⟨B,1,none⟩ = some (.int .u64 hi)
 c2 : w.cell? ⟨B,2,none⟩ = some (.int .u64 lo)
theorem AB.on {w w' : World} {B : Nat} {f : Int} {hi lo : Nat} (h : AB w B f hi lo) (hb : Below w.heap.size w w') : AB w' B f hi lo :=
 ⟨keepc hb h.c0,keepc hb h.c1,keepc hb h.c2⟩
theorem ab_new (w : World) (f : Int) (hi lo : Nat) (t : TypeId) : AB (w.alloc (.cells #[.int .i64 f,.int .u64 hi,.int .u64 lo] t)) w.heap.size f hi lo := by
 constructor
 all_goals (rw [World.cell?_alloc_at _ _ _ _ rfl];rfl)
def hld (f : Int) (hi lo : Nat) (b : Int) (f' : Int) (hi' lo' : Nat) : Bool :=
 vP f hi lo b && (vA f' hi' lo' && (decide (f = f') && decide (num f hi lo / 2 ^ (wid f - b.toNat) = num f' hi' lo' / 2 ^ (wid f - b.toNat))))
theorem hld_iff (f : Int) (hi lo : Nat) (b : Int) (f' : Int) (hi' lo' : Nat) : hld f hi lo b f' hi' lo' = true ↔
  vP f hi lo b = true ∧ vA f' hi' lo' = true ∧ f = f' ∧ num f hi lo / 2 ^ (wid f - b.toNat) = num f' hi' lo' / 2 ^ (wid f - b.toNat) := by simp [hld]
end Go.Proofs.YtpkmekdpmkfcdaaGreatDoor.Pf
