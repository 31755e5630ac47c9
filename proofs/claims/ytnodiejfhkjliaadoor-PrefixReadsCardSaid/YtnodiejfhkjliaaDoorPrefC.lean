/- Contracts: a valid prefix, a held address, by the reference. -/
import Derived.Test.YtnodiejfhkjliaaDoorPrefB
namespace Go.Proofs.YtnodiejfhkjliaaDoor.Pf
open Go.RowKit Go.Proofs.YtnodiejfhkjliaaDoor.Wd Go.Proofs.YtnodiejfhkjliaaDoor.Px

/-- a prefix in a block of its own -/
structure PB (w : World) (B : Nat) (f : Int) (hi lo : Nat) (b : Int) : Prop where
  c0 : w.cell? ⟨B, 0, none⟩ = some (.int .i64 f)
  c1 : w.cell? ⟨B, 1, none⟩ = some (.int .u64 hi)
  c2 : w.cell? ⟨B, 2, none⟩ = some (.int .u64 lo)
  c3 : w.cell? ⟨B, 3, none⟩ = some (.int .i64 b)
theorem PB.on {w w' : World} {B : Nat} {f : Int} {hi lo : Nat} {b : Int} (h : PB w B f hi lo b) (hb : Below w.heap.size w w') : PB w' B f hi lo b :=
  ⟨keepc hb h.c0, keepc hb h.c1, keepc hb h.c2, keepc hb h.c3⟩
theorem pb_new (w : World) (f : Int) (hi lo : Nat) (b : Int) (t : TypeId) : PB (w.alloc (.cells #[.int .i64 f, .int .u64 hi, .int .u64 lo, .int .i64 b] t)) w.heap.size f hi lo b := by
  constructor
  all_goals (rw [World.cell?_alloc_at _ _ _ _ rfl]; rfl)

theorem wid_le (f : Int) : wid f ≤ 128 := by unfold wid; split <;> (try split) <;> omega
theorem one (w : World) (o : Obj) : Below w.heap.size w (w.alloc o) := (Below.refl _ _).alloc (Nat.le_refl _) o

set_option maxRecDepth 20000 in
set_option maxHeartbeats 2000000 in
theorem rvalid_loop (f : Int) (hi lo b : Nat) (w : World) (hh : hi < 18446744073709551616) (hl : lo < 18446744073709551616) (hv : vA f hi lo = true) (hb : b ≤ wid f) :
    Calls Tryd.prog 16 #[.agg #[.int .i64 f, .int .u64 hi, .int .u64 lo, .int .i64 b]] w fun e w' => e = .returned (.bool (vP f hi lo b)) ∧ Below w.heap.size w w' := by
  have hw := wid_le f
  have HV := Lib.hid hv
  clear hv
  obtain ⟨n, hn⟩ : ∃ n, wid f = n := ⟨_, rfl⟩
  rw [hn] at hw hb
  have HN := Lib.hid hn
  clear hn
  have hb1 : (b : Int) ≤ (n : Int) := by omega
  have d1 : decide ((b : Int) < 0) = false := by rw [decide_eq_false_iff_not]; omega
  have d2 : decide (n < b) = false := by rw [decide_eq_false_iff_not]; omega
  have hp := pb_new w f hi lo b 26
  have hbl := one w (.cells #[.int .i64 f, .int .u64 hi, .int .u64 lo, .int .i64 b] 26)
  go_enter Tryd.func16, Tryd.ntmps16
  go_wp2_with fail
  refine (rvaddr_any f hi lo _).mono ?_
  rintro e w1 ⟨rfl, hb2⟩
  rw [HV.out]
  have hp1 := hp.on hb2
  have hbl1 := hbl.trans (hb2.mono hbl.size)
  clear hp hbl hb2
  obtain ⟨e0, e1, e2, e3⟩ := hp1
  go_wp2_with fail
  refine (rbits_any f _).mono ?_
  rintro e w2 ⟨rfl, rfl⟩
  rw [HN.out]
  have hp1 : PB w2 w.heap.size f hi lo b := ⟨e0, e1, e2, e3⟩
  go_wp2
  clear e0 e1 e2 e3
  go_loopw [5] (fun i wr => ∃ k : Nat, b ≤ k ∧ k ≤ n ∧ i = .int .i64 k ∧ PB wr w.heap.size f hi lo b ∧ Below w.heap.size w wr ∧ Hid (∀ j, b ≤ j → j < k → bitAt f hi lo j = false)) (fun i _ => n - (intOf i).toNat)
  case atStart => exact ⟨b, Nat.le_refl _, hb, rfl, hp1, hbl1, Lib.hid fun j h1 h2 => by omega⟩
  case round =>
    obtain ⟨k, hk1, hk2, rfl, hp, hbl, HB⟩ := hrel
    clear hp1 hbl1
    by_cases hlt : k < n
    · have i1 : (k : Int) < (n : Int) := by omega
      obtain ⟨e0, e1, e2, e3⟩ := hp
      go_wp2_with fail
      refine (rbit_any f hi lo k _ hh hl HV.out (by rw [HN.out]; exact hlt)).mono ?_
      rintro e w3 ⟨rfl, hb3⟩
      have hp3 := (PB.mk e0 e1 e2 e3).on hb3
      have hbl3 := hbl.trans (hb3.mono hbl.size)
      clear e0 e1 e2 e3 hb3 hbl
      cases hB : bitAt f hi lo k with
      | true =>
        have HB2 := Lib.hid hB
        clear hB
        go_wp2
        go_ret
        refine ⟨ret_bool ?_, hbl3⟩
        symm
        rw [← Bool.not_eq_true, vP_iff]
        rintro ⟨-, -, -, h⟩
        rw [Int.toNat_natCast, valid_bits (by rw [HN.out]; exact hb)] at h
        have := h k hk1 (by rw [HN.out]; exact hlt)
        rw [HB2.out] at this
        cases this
      | false =>
        have HB2 := Lib.hid hB
        clear hB
        have HB3 : Hid (∀ j, b ≤ j → j < k + 1 → bitAt f hi lo j = false) := Lib.hid fun j h1 h2 => by
          by_cases hj : j = k
          · rw [hj]; exact HB2.out
          · exact HB.out j h1 (by omega)
        go_wp2
        go_roundw
        case rel => exact ⟨k + 1, by omega, by omega, by go_num, hp3, hbl3, HB3⟩
        case measure => simp [intOf]; omega
    · obtain rfl : k = n := by omega
      go_wp2
      go_ret
      refine ⟨ret_bool ?_, hbl⟩
      symm
      rw [vP_iff]
      refine ⟨HV.out, by omega, by rw [HN.out]; exact hb1, ?_⟩
      rw [Int.toNat_natCast, valid_bits (by rw [HN.out]; exact hb)]
      intro j h1 h2
      exact HB.out j h1 (by rw [← HN.out]; exact h2)

end Go.Proofs.YtnodiejfhkjliaaDoor.Pf
