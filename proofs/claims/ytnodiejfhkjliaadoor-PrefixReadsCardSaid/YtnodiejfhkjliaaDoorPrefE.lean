/- Contract: a held address, by the reference. -/
import Derived.Test.YtnodiejfhkjliaaDoorPrefD
namespace Go.Proofs.YtnodiejfhkjliaaDoor.Pf
open Go.RowKit Go.Proofs.YtnodiejfhkjliaaDoor.Wd Go.Proofs.YtnodiejfhkjliaaDoor.Px

/-- an address in a block of its own -/
structure AB (w : World) (B : Nat) (f : Int) (hi lo : Nat) : Prop where
  c0 : w.cell? ⟨B, 0, none⟩ = some (.int .i64 f)
  c1 : w.cell? ⟨B, 1, none⟩ = some (.int .u64 hi)
  c2 : w.cell? ⟨B, 2, none⟩ = some (.int .u64 lo)
theorem AB.on {w w' : World} {B : Nat} {f : Int} {hi lo : Nat} (h : AB w B f hi lo) (hb : Below w.heap.size w w') : AB w' B f hi lo :=
  ⟨keepc hb h.c0, keepc hb h.c1, keepc hb h.c2⟩
theorem ab_new (w : World) (f : Int) (hi lo : Nat) (t : TypeId) : AB (w.alloc (.cells #[.int .i64 f, .int .u64 hi, .int .u64 lo] t)) w.heap.size f hi lo := by
  constructor
  all_goals (rw [World.cell?_alloc_at _ _ _ _ rfl]; rfl)

def hld (f : Int) (hi lo : Nat) (b : Int) (f' : Int) (hi' lo' : Nat) : Bool :=
  vP f hi lo b && (vA f' hi' lo' && (decide (f = f') && decide (num f hi lo / 2 ^ (wid f - b.toNat) = num f' hi' lo' / 2 ^ (wid f - b.toNat))))
theorem hld_iff (f : Int) (hi lo : Nat) (b : Int) (f' : Int) (hi' lo' : Nat) : hld f hi lo b f' hi' lo' = true ↔
    vP f hi lo b = true ∧ vA f' hi' lo' = true ∧ f = f' ∧ num f hi lo / 2 ^ (wid f - b.toNat) = num f' hi' lo' / 2 ^ (wid f - b.toNat) := by simp [hld]

theorem two_bools {X Y : Bool} (h : ¬ X = Y) : (X = false ∧ Y = true) ∨ (X = true ∧ Y = false) := by cases X <;> cases Y <;> simp_all
theorem hld_bit {f : Int} {hi lo b hi' lo' k : Nat} (hb : b ≤ wid f) (hv : vA f hi lo = true) (hv' : vA f hi' lo' = true) (hh : hi < 18446744073709551616) (hl : lo < 18446744073709551616) (hh' : hi' < 18446744073709551616) (hl' : lo' < 18446744073709551616)
    (hk : k < b) (hne : bitAt f hi lo k ≠ bitAt f hi' lo' k) : hld f hi lo b f hi' lo' = false := by
  rw [← Bool.not_eq_true, hld_iff]
  rintro ⟨-, -, -, h⟩
  rw [Int.toNat_natCast, holds_bits hb (num_lt hv hh hl) (num_lt hv' hh' hl')] at h
  exact hne (h k hk)
theorem rbit_as {f : Int} {hi lo i : Nat} {X : Bool} (h : Hid (bitAt f hi lo i = X)) (w : World) (hh : hi < 18446744073709551616) (hl : lo < 18446744073709551616) (hv : vA f hi lo = true) (hi' : i < wid f) :
    Calls Tryd.prog 45 #[.agg #[.int .i64 f, .int .u64 hi, .int .u64 lo], .int .i64 i] w fun e w' => e = .returned (.bool X) ∧ Below w.heap.size w w' := by
  have := rbit_any f hi lo i w hh hl hv hi'
  rwa [h.out] at this

set_option maxHeartbeats 2000000 in
theorem rholds_no (f : Int) (hi lo : Nat) (b : Int) (f' : Int) (hi' lo' : Nat) (w : World) (hh : hi < 18446744073709551616) (hl : lo < 18446744073709551616) (h : vP f hi lo b = false ∨ (vP f hi lo b = true ∧ (vA f' hi' lo' = false ∨ (vA f' hi' lo' = true ∧ f ≠ f')))) :
    Calls Tryd.prog 19 #[.agg #[.int .i64 f, .int .u64 hi, .int .u64 lo, .int .i64 b], .agg #[.int .i64 f', .int .u64 hi', .int .u64 lo']] w fun e w' => e = .returned (.bool false) ∧ Below w.heap.size w w' := by
  have hp := (pb_new w f hi lo b 26).on (one _ (.cells #[.int .i64 f', .int .u64 hi', .int .u64 lo'] 24))
  have ha := ab_new (w.alloc (.cells #[.int .i64 f, .int .u64 hi, .int .u64 lo, .int .i64 b] 26)) f' hi' lo' 24
  have hbl := two w (.cells #[.int .i64 f, .int .u64 hi, .int .u64 lo, .int .i64 b] 26) (.cells #[.int .i64 f', .int .u64 hi', .int .u64 lo'] 24)
  rw [World.size_alloc] at ha
  go_enter Tryd.func19, Tryd.ntmps19
  go_wp2_with fail
  refine (rvalid_any f hi lo b _ hh hl).mono ?_
  rintro e w1 ⟨rfl, hb1⟩
  have hp1 := hp.on hb1
  have ha1 := ha.on hb1
  have hbl1 := hbl.trans (hb1.mono hbl.size)
  clear hp ha hbl hb1
  obtain ⟨a0, a1, a2⟩ := ha1
  go_wp2_with fail
  refine (rvaddr_any f' hi' lo' _).mono ?_
  rintro e w2 ⟨rfl, hb2⟩
  have hp2 := hp1.on hb2
  have ha2 := (AB.mk a0 a1 a2).on hb2
  have hbl2 := hbl1.trans (hb2.mono hbl1.size)
  clear hp1 hbl1 a0 a1 a2 hb2
  obtain ⟨a0, a1, a2⟩ := ha2
  obtain ⟨e0, e1, e2, e3⟩ := hp2
  rcases h with h | ⟨hv, h | ⟨hv2, h⟩⟩
  · rw [h]
    clear h
    go_wp2
    go_ret
    exact ⟨rfl, hbl2⟩
  · rw [hv, h]
    clear hv h
    go_wp2
    go_ret
    exact ⟨rfl, hbl2⟩
  · rw [hv, hv2]
    have h2 : (f != f') = true := by simpa using h
    clear hv hv2 h
    go_wp2
    go_ret
    exact ⟨rfl, hbl2⟩

set_option maxRecDepth 20000 in
set_option maxHeartbeats 2000000 in
theorem rholds_loop (f : Int) (hi lo b hi' lo' : Nat) (w : World) (hh : hi < 18446744073709551616) (hl : lo < 18446744073709551616) (hh' : hi' < 18446744073709551616) (hl' : lo' < 18446744073709551616)
    (hv : vP f hi lo b = true) (hv' : vA f hi' lo' = true) :
    Calls Tryd.prog 19 #[.agg #[.int .i64 f, .int .u64 hi, .int .u64 lo, .int .i64 b], .agg #[.int .i64 f, .int .u64 hi', .int .u64 lo']] w fun e w' => e = .returned (.bool (hld f hi lo b f hi' lo')) ∧ Below w.heap.size w w' := by
  obtain ⟨hvA, -, hbw, -⟩ := (vP_iff f hi lo b).1 hv
  have hbn : b ≤ wid f := by omega
  have hb128 : b ≤ 128 := Nat.le_trans hbn (wid_le f)
  have HVP := Lib.hid hv
  have HVA := Lib.hid hvA
  have HVB := Lib.hid hv'
  have HBN := Lib.hid hbn
  clear hv hv' hvA hbw hbn
  have hfe : (f != f) = false := by simp
  have hp := (pb_new w f hi lo b 26).on (one _ (.cells #[.int .i64 f, .int .u64 hi', .int .u64 lo'] 24))
  have ha := ab_new (w.alloc (.cells #[.int .i64 f, .int .u64 hi, .int .u64 lo, .int .i64 b] 26)) f hi' lo' 24
  have hbl := two w (.cells #[.int .i64 f, .int .u64 hi, .int .u64 lo, .int .i64 b] 26) (.cells #[.int .i64 f, .int .u64 hi', .int .u64 lo'] 24)
  rw [World.size_alloc] at ha
  go_enter Tryd.func19, Tryd.ntmps19
  go_wp2_with fail
  refine (rvalid_any f hi lo b _ hh hl).mono ?_
  rintro e w1 ⟨rfl, hb1⟩
  rw [HVP.out]
  have hp1 := hp.on hb1
  have ha1 := ha.on hb1
  have hbl1 := hbl.trans (hb1.mono hbl.size)
  clear hp ha hbl hb1
  obtain ⟨a0, a1, a2⟩ := ha1
  go_wp2_with fail
  refine (rvaddr_any f hi' lo' _).mono ?_
  rintro e w2 ⟨rfl, hb2⟩
  rw [HVB.out]
  have hp2 := hp1.on hb2
  have ha2 := (AB.mk a0 a1 a2).on hb2
  have hbl2 := hbl1.trans (hb2.mono hbl1.size)
  clear hp1 hbl1 a0 a1 a2 hb2
  obtain ⟨a0, a1, a2⟩ := ha2
  obtain ⟨e0, e1, e2, e3⟩ := hp2
  go_wp2
  have ha2 : AB w2 (w.heap.size + 1) f hi' lo' := ⟨a0, a1, a2⟩
  have hp2 : PB w2 w.heap.size f hi lo b := ⟨e0, e1, e2, e3⟩
  clear a0 a1 a2 e0 e1 e2 e3
  go_loopw [7] (fun i wr => ∃ k : Nat, k ≤ b ∧ i = .int .i64 k ∧ PB wr w.heap.size f hi lo b ∧ AB wr (w.heap.size + 1) f hi' lo' ∧ Below w.heap.size w wr ∧ Hid (∀ j, j < k → bitAt f hi lo j = bitAt f hi' lo' j)) (fun i _ => b - (intOf i).toNat)
  case atStart => exact ⟨0, Nat.zero_le _, rfl, hp2, ha2, hbl2, Lib.hid fun j h1 => by omega⟩
  case round =>
    obtain ⟨k, hk, rfl, hp, ha, hbl, HB⟩ := hrel
    clear hp2 ha2 hbl2
    obtain ⟨e0, e1, e2, e3⟩ := hp
    obtain ⟨a0, a1, a2⟩ := ha
    by_cases hlt : k < b
    · have i1 : (k : Int) < (b : Int) := by omega
      obtain ⟨X, hX⟩ : ∃ X, bitAt f hi lo k = X := ⟨_, rfl⟩
      obtain ⟨Y, hY⟩ : ∃ Y, bitAt f hi' lo' k = Y := ⟨_, rfl⟩
      have HX := Lib.hid hX
      have HY := Lib.hid hY
      clear hX hY
      go_wp2_with fail
      refine (rbit_as HX _ hh hl HVA.out (Nat.lt_of_lt_of_le hlt HBN.out)).mono ?_
      rintro e w3 ⟨rfl, hb3⟩
      have hp3 := (PB.mk e0 e1 e2 e3).on hb3
      have ha3 := (AB.mk a0 a1 a2).on hb3
      have hbl3 := hbl.trans (hb3.mono hbl.size)
      clear e0 e1 e2 e3 a0 a1 a2 hb3 hbl
      obtain ⟨a0, a1, a2⟩ := ha3
      go_wp2_with fail
      refine (rbit_as HY _ hh' hl' HVB.out (Nat.lt_of_lt_of_le hlt HBN.out)).mono ?_
      rintro e w4 ⟨rfl, hb4⟩
      have hp4 := hp3.on hb4
      have ha4 := (AB.mk a0 a1 a2).on hb4
      have hbl4 := hbl3.trans (hb4.mono hbl3.size)
      clear hp3 hbl3 a0 a1 a2 hb4
      by_cases hB : X = Y
      · obtain rfl := hB
        have HB3 : Hid (∀ j, j < k + 1 → bitAt f hi lo j = bitAt f hi' lo' j) := Lib.hid fun j h1 => by
          by_cases hj : j = k
          · rw [hj, HX.out, HY.out]
          · exact HB.out j (by omega)
        have hne : (X != X) = false := by simp
        go_wp2
        go_roundw
        case rel => exact ⟨k + 1, by omega, by go_num, hp4, ha4, hbl4, HB3⟩
        case measure => simp [intOf]; omega
      · have hne := two_bools hB
        clear hB
        rcases hne with ⟨rfl, rfl⟩ | ⟨rfl, rfl⟩
        all_goals go_wp2
        all_goals go_ret
        all_goals exact ⟨ret_bool (hld_bit HBN.out HVA.out HVB.out hh hl hh' hl' hlt (by rw [HX.out, HY.out]; decide)).symm, hbl4⟩
    · obtain rfl : k = b := by omega
      go_wp2
      go_ret
      refine ⟨ret_bool ?_, hbl⟩
      symm
      rw [hld_iff]
      refine ⟨HVP.out, HVB.out, rfl, ?_⟩
      rw [Int.toNat_natCast, holds_bits HBN.out (num_lt HVA.out hh hl) (num_lt HVB.out hh' hl')]
      exact HB.out
theorem rholds_any (f : Int) (hi lo : Nat) (b : Int) (f' : Int) (hi' lo' : Nat) (w : World) (hh : hi < 18446744073709551616) (hl : lo < 18446744073709551616) (hh' : hi' < 18446744073709551616) (hl' : lo' < 18446744073709551616) :
    Calls Tryd.prog 19 #[.agg #[.int .i64 f, .int .u64 hi, .int .u64 lo, .int .i64 b], .agg #[.int .i64 f', .int .u64 hi', .int .u64 lo']] w fun e w' => e = .returned (.bool (hld f hi lo b f' hi' lo')) ∧ Below w.heap.size w w' := by
  cases h1 : vP f hi lo b with
  | false => rw [show hld f hi lo b f' hi' lo' = false by simp [hld, h1]]; exact rholds_no f hi lo b f' hi' lo' w hh hl (.inl h1)
  | true =>
    cases h2 : vA f' hi' lo' with
    | false => rw [show hld f hi lo b f' hi' lo' = false by simp [hld, h2]]; exact rholds_no f hi lo b f' hi' lo' w hh hl (.inr ⟨h1, .inl h2⟩)
    | true =>
      by_cases h3 : f = f'
      · obtain rfl := h3
        obtain ⟨-, hb0, -, -⟩ := (vP_iff f hi lo b).1 h1
        obtain ⟨c, rfl⟩ : ∃ c : Nat, b = c := ⟨b.toNat, by omega⟩
        exact rholds_loop f hi lo c hi' lo' w hh hl hh' hl' h1 h2
      · rw [show hld f hi lo b f' hi' lo' = false by simp [hld, h3]]
        exact rholds_no f hi lo b f' hi' lo' w hh hl (.inr ⟨h1, .inr ⟨h2, h3⟩⟩)

end Go.Proofs.YtnodiejfhkjliaaDoor.Pf
