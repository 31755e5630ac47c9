/- The walks of statements on prefixes. -/
import Derived.Test.YtnodiejfhkjliaaDoorPLawsA
namespace Go.Proofs.YtnodiejfhkjliaaDoor.Pf
open Go.RowKit Go.Proofs.YtnodiejfhkjliaaDoor.Wd Go.Proofs.YtnodiejfhkjliaaDoor.Px Go.Proofs.YtnodiejfhkjliaaDoor.By Go.Proofs.YtnodiejfhkjliaaDoor.En Go.Proofs.YtnodiejfhkjliaaDoor.Pl

theorem nest {f : Int} {hi lo : Nat} {b f2 : Int} {hi2 lo2 : Nat} {b2 f3 : Int} {hi3 lo3 : Nat} {f4 : Int} {hi4 lo4 : Nat} (h1 : hld f hi lo b f3 hi3 lo3 = true) (h2 : hld f2 hi2 lo2 b2 f3 hi3 lo3 = true) (h3 : hld f2 hi2 lo2 b2 f4 hi4 lo4 = true) (hb : b ≤ b2) : hld f hi lo b f4 hi4 lo4 = true := by
  rw [hld_iff] at h1 h2 h3 ⊢
  obtain ⟨p1, a1, rfl, e1⟩ := h1
  obtain ⟨p2, a2, rfl, e2⟩ := h2
  obtain ⟨p3, a3, rfl, e3⟩ := h3
  refine ⟨p1, a3, rfl, e1.trans ?_⟩
  have hb0 := ((vP_iff _ _ _ _).1 p1).2.1
  have e4 : num f2 hi3 lo3 / 2 ^ (wid f2 - b2.toNat) = num f2 hi4 lo4 / 2 ^ (wid f2 - b2.toNat) := e2.symm.trans e3
  have hx : wid f2 - b.toNat = (wid f2 - b2.toNat) + ((wid f2 - b.toNat) - (wid f2 - b2.toNat)) := by omega
  rw [hx, Nat.pow_add, ← Nat.div_div_eq_div_mul, ← Nat.div_div_eq_div_mul, e4]
set_option maxRecDepth 20000 in
set_option maxHeartbeats 4000000 in
theorem prefixNests_law (f : Int) (hi lo : Nat) (b : Int) (hh : hi < 18446744073709551616) (hl : lo < 18446744073709551616) (f2 : Int) (hi2 lo2 : Nat) (b2 : Int) (hh2 : hi2 < 18446744073709551616) (hl2 : lo2 < 18446744073709551616) (f3 : Int) (hi3 lo3 : Nat) (hh3 : hi3 < 18446744073709551616) (hl3 : lo3 < 18446744073709551616) (f4 : Int) (hi4 lo4 : Nat) (hh4 : hi4 < 18446744073709551616) (hl4 : lo4 < 18446744073709551616) (w : World) (hE : Env w) :
    Calls Tryd.prog 8 #[.agg #[.int .i64 f, .int .u64 hi, .int .u64 lo, .int .i64 b], .agg #[.int .i64 f2, .int .u64 hi2, .int .u64 lo2, .int .i64 b2], .agg #[.int .i64 f3, .int .u64 hi3, .int .u64 lo3], .agg #[.int .i64 f4, .int .u64 hi4, .int .u64 lo4]] w fun e w' => e = .returned (.bool true) ∧ Below w.heap.size w w' := by
  obtain ⟨pa, hpa⟩ : ∃ x : Bool, hld f hi lo b f3 hi3 lo3 = x := ⟨_, rfl⟩
  have Hpa := Lib.hid hpa
  clear hpa
  obtain ⟨qa, hqa⟩ : ∃ x : Bool, hld f2 hi2 lo2 b2 f3 hi3 lo3 = x := ⟨_, rfl⟩
  have Hqa := Lib.hid hqa
  clear hqa
  obtain ⟨pb, hpb⟩ : ∃ x : Bool, hld f hi lo b f4 hi4 lo4 = x := ⟨_, rfl⟩
  have Hpb := Lib.hid hpb
  clear hpb
  obtain ⟨qb, hqb⟩ : ∃ x : Bool, hld f2 hi2 lo2 b2 f4 hi4 lo4 = x := ⟨_, rfl⟩
  have Hqb := Lib.hid hqb
  clear hqb
  have N1 : Hid (pa = true → qa = true → b ≤ b2 → qb = true → pb = true) := Lib.hid fun h1 h2 hb h3 => by rw [← Hpb.out]; exact nest (Hpa.out.trans h1) (Hqa.out.trans h2) (Hqb.out.trans h3) hb
  have N2 : Hid (pa = true → qa = true → b2 ≤ b → pb = true → qb = true) := Lib.hid fun h1 h2 hb h3 => by rw [← Hqb.out]; exact nest (Hqa.out.trans h2) (Hpa.out.trans h1) (Hpb.out.trans h3) hb
  go_enter Tryd.func8, Tryd.ntmps8
  have E0 := hE.on (((((Below.refl _ w).alloc (by exact Nat.le_refl _) (.cells #[.int .i64 f, .int .u64 hi, .int .u64 lo, .int .i64 b] 26)).alloc (by simp) (.cells #[.int .i64 f2, .int .u64 hi2, .int .u64 lo2, .int .i64 b2] 26)).alloc (by simp <;> omega) (.cells #[.int .i64 f3, .int .u64 hi3, .int .u64 lo3] 24)).alloc (by simp <;> omega) (.cells #[.int .i64 f4, .int .u64 hi4, .int .u64 lo4] 24))
  go_wp2_with fail
  refine (first_any _ E0).mono ?_
  rintro e w1 ⟨rfl, hb1⟩
  have bo1 : Below w.heap.size w w1 := (((((Below.refl _ w).alloc (Nat.le_refl _) _).alloc (by simp) _).alloc (by simp <;> omega) _).alloc (by simp <;> omega) _).trans (hb1.mono (by simp <;> omega))
  have c1_0 := keepc hb1 (b := w.heap.size) (o := 0) (v := .int .i64 f) (by go_simp)
  have c1_1 := keepc hb1 (b := w.heap.size) (o := 1) (v := .int .u64 hi) (by go_simp)
  have c1_2 := keepc hb1 (b := w.heap.size) (o := 2) (v := .int .u64 lo) (by go_simp)
  have c1_3 := keepc hb1 (b := w.heap.size) (o := 3) (v := .int .i64 b) (by go_simp)
  have l1 : w.heap.size < w1.heap.size := by
    have := hb1.size
    try simp at this
    omega
  have c2_0 := keepc hb1 (b := w.heap.size + 1) (o := 0) (v := .int .i64 f2) (by go_simp)
  have c2_1 := keepc hb1 (b := w.heap.size + 1) (o := 1) (v := .int .u64 hi2) (by go_simp)
  have c2_2 := keepc hb1 (b := w.heap.size + 1) (o := 2) (v := .int .u64 lo2) (by go_simp)
  have c2_3 := keepc hb1 (b := w.heap.size + 1) (o := 3) (v := .int .i64 b2) (by go_simp)
  have l2 : w.heap.size + 1 < w1.heap.size := by
    have := hb1.size
    try simp at this
    omega
  have c3_0 := keepc hb1 (b := w.heap.size + 2) (o := 0) (v := .int .i64 f3) (by go_simp)
  have c3_1 := keepc hb1 (b := w.heap.size + 2) (o := 1) (v := .int .u64 hi3) (by go_simp)
  have c3_2 := keepc hb1 (b := w.heap.size + 2) (o := 2) (v := .int .u64 lo3) (by go_simp)
  have l3 : w.heap.size + 2 < w1.heap.size := by
    have := hb1.size
    try simp at this
    omega
  have c4_0 := keepc hb1 (b := w.heap.size + 3) (o := 0) (v := .int .i64 f4) (by go_simp)
  have c4_1 := keepc hb1 (b := w.heap.size + 3) (o := 1) (v := .int .u64 hi4) (by go_simp)
  have c4_2 := keepc hb1 (b := w.heap.size + 3) (o := 2) (v := .int .u64 lo4) (by go_simp)
  have l4 : w.heap.size + 3 < w1.heap.size := by
    have := hb1.size
    try simp at this
    omega
  have bl1 : Below w.heap.size w w1 := (Below.refl _ _).trans (bo1.mono (Nat.le_refl _))
  clear hb1 bo1 E0
  go_wp2_with fail
  refine (as_bool Hpa (vholds_any f hi lo b f3 hi3 lo3 _ hh hl hh3 hl3)).mono ?_
  rintro e w2 ⟨rfl, hb2⟩
  have bo2 := hb2
  have c1_0_2 := keepc bo2 c1_0
  have c1_1_2 := keepc bo2 c1_1
  have c1_2_2 := keepc bo2 c1_2
  have c1_3_2 := keepc bo2 c1_3
  have l1_2 := Nat.lt_of_lt_of_le l1 bo2.size
  have c2_0_2 := keepc bo2 c2_0
  have c2_1_2 := keepc bo2 c2_1
  have c2_2_2 := keepc bo2 c2_2
  have c2_3_2 := keepc bo2 c2_3
  have l2_2 := Nat.lt_of_lt_of_le l2 bo2.size
  have c3_0_2 := keepc bo2 c3_0
  have c3_1_2 := keepc bo2 c3_1
  have c3_2_2 := keepc bo2 c3_2
  have l3_2 := Nat.lt_of_lt_of_le l3 bo2.size
  have c4_0_2 := keepc bo2 c4_0
  have c4_1_2 := keepc bo2 c4_1
  have c4_2_2 := keepc bo2 c4_2
  have l4_2 := Nat.lt_of_lt_of_le l4 bo2.size
  have bl2 : Below w.heap.size w w2 := bl1.trans (bo2.mono bl1.size)
  clear c1_0 c1_1 c1_2 c1_3 l1 c2_0 c2_1 c2_2 c2_3 l2 c3_0 c3_1 c3_2 l3 c4_0 c4_1 c4_2 l4 bl1 hb2 bo2
  go_wp2_with fail
  refine (as_bool Hqa (vholds_any f2 hi2 lo2 b2 f3 hi3 lo3 _ hh2 hl2 hh3 hl3)).mono ?_
  rintro e w3 ⟨rfl, hb3⟩
  have bo3 := hb3
  have c1_0_3 := keepc bo3 c1_0_2
  have c1_1_3 := keepc bo3 c1_1_2
  have c1_2_3 := keepc bo3 c1_2_2
  have c1_3_3 := keepc bo3 c1_3_2
  have l1_3 := Nat.lt_of_lt_of_le l1_2 bo3.size
  have c2_0_3 := keepc bo3 c2_0_2
  have c2_1_3 := keepc bo3 c2_1_2
  have c2_2_3 := keepc bo3 c2_2_2
  have c2_3_3 := keepc bo3 c2_3_2
  have l2_3 := Nat.lt_of_lt_of_le l2_2 bo3.size
  have c3_0_3 := keepc bo3 c3_0_2
  have c3_1_3 := keepc bo3 c3_1_2
  have c3_2_3 := keepc bo3 c3_2_2
  have l3_3 := Nat.lt_of_lt_of_le l3_2 bo3.size
  have c4_0_3 := keepc bo3 c4_0_2
  have c4_1_3 := keepc bo3 c4_1_2
  have c4_2_3 := keepc bo3 c4_2_2
  have l4_3 := Nat.lt_of_lt_of_le l4_2 bo3.size
  have bl3 : Below w.heap.size w w3 := bl2.trans (bo3.mono bl2.size)
  clear c1_0_2 c1_1_2 c1_2_2 c1_3_2 l1_2 c2_0_2 c2_1_2 c2_2_2 c2_3_2 l2_2 c3_0_2 c3_1_2 c3_2_2 l3_2 c4_0_2 c4_1_2 c4_2_2 l4_2 bl2 hb3 bo3
  go_wp2_with fail
  refine (as_bool Hpb (vholds_any f hi lo b f4 hi4 lo4 _ hh hl hh4 hl4)).mono ?_
  rintro e w4 ⟨rfl, hb4⟩
  have bo4 := hb4
  have c1_0_4 := keepc bo4 c1_0_3
  have c1_1_4 := keepc bo4 c1_1_3
  have c1_2_4 := keepc bo4 c1_2_3
  have c1_3_4 := keepc bo4 c1_3_3
  have l1_4 := Nat.lt_of_lt_of_le l1_3 bo4.size
  have c2_0_4 := keepc bo4 c2_0_3
  have c2_1_4 := keepc bo4 c2_1_3
  have c2_2_4 := keepc bo4 c2_2_3
  have c2_3_4 := keepc bo4 c2_3_3
  have l2_4 := Nat.lt_of_lt_of_le l2_3 bo4.size
  have c3_0_4 := keepc bo4 c3_0_3
  have c3_1_4 := keepc bo4 c3_1_3
  have c3_2_4 := keepc bo4 c3_2_3
  have l3_4 := Nat.lt_of_lt_of_le l3_3 bo4.size
  have c4_0_4 := keepc bo4 c4_0_3
  have c4_1_4 := keepc bo4 c4_1_3
  have c4_2_4 := keepc bo4 c4_2_3
  have l4_4 := Nat.lt_of_lt_of_le l4_3 bo4.size
  have bl4 : Below w.heap.size w w4 := bl3.trans (bo4.mono bl3.size)
  clear c1_0_3 c1_1_3 c1_2_3 c1_3_3 l1_3 c2_0_3 c2_1_3 c2_2_3 c2_3_3 l2_3 c3_0_3 c3_1_3 c3_2_3 l3_3 c4_0_3 c4_1_3 c4_2_3 l4_3 bl3 hb4 bo4
  go_wp2_with fail
  refine (as_bool Hqb (vholds_any f2 hi2 lo2 b2 f4 hi4 lo4 _ hh2 hl2 hh4 hl4)).mono ?_
  rintro e w5 ⟨rfl, hb5⟩
  have bo5 := hb5
  have c1_0_5 := keepc bo5 c1_0_4
  have c1_1_5 := keepc bo5 c1_1_4
  have c1_2_5 := keepc bo5 c1_2_4
  have c1_3_5 := keepc bo5 c1_3_4
  have l1_5 := Nat.lt_of_lt_of_le l1_4 bo5.size
  have c2_0_5 := keepc bo5 c2_0_4
  have c2_1_5 := keepc bo5 c2_1_4
  have c2_2_5 := keepc bo5 c2_2_4
  have c2_3_5 := keepc bo5 c2_3_4
  have l2_5 := Nat.lt_of_lt_of_le l2_4 bo5.size
  have c3_0_5 := keepc bo5 c3_0_4
  have c3_1_5 := keepc bo5 c3_1_4
  have c3_2_5 := keepc bo5 c3_2_4
  have l3_5 := Nat.lt_of_lt_of_le l3_4 bo5.size
  have c4_0_5 := keepc bo5 c4_0_4
  have c4_1_5 := keepc bo5 c4_1_4
  have c4_2_5 := keepc bo5 c4_2_4
  have l4_5 := Nat.lt_of_lt_of_le l4_4 bo5.size
  have bl5 : Below w.heap.size w w5 := bl4.trans (bo5.mono bl4.size)
  clear c1_0_4 c1_1_4 c1_2_4 c1_3_4 l1_4 c2_0_4 c2_1_4 c2_2_4 c2_3_4 l2_4 c3_0_4 c3_1_4 c3_2_4 l3_4 c4_0_4 c4_1_4 c4_2_4 l4_4 bl4 hb5 bo5
  cases pa
  all_goals cases qa
  all_goals cases pb
  all_goals cases qb
  all_goals by_cases hbb : b ≤ b2
  all_goals try (exact absurd (N1.out rfl rfl hbb rfl) (by decide))
  all_goals try (exact absurd (N2.out rfl rfl (by omega) rfl) (by decide))
  all_goals clear N1 N2
  all_goals go_wp2
  all_goals go_ret
  all_goals exact ⟨rfl, bl5⟩


end Go.Proofs.YtnodiejfhkjliaaDoor.Pf
