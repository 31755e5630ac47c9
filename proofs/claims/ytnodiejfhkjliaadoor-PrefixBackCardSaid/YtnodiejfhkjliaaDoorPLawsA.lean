/- The walks of statements on prefixes. -/
import Derived.Test.YtnodiejfhkjliaaDoorMK
import Derived.Test.YtnodiejfhkjliaaDoorMA
import Derived.Test.YtnodiejfhkjliaaDoorMB
namespace Go.Proofs.YtnodiejfhkjliaaDoor.Pf
open Go.RowKit Go.Proofs.YtnodiejfhkjliaaDoor.Wd Go.Proofs.YtnodiejfhkjliaaDoor.Px Go.Proofs.YtnodiejfhkjliaaDoor.By Go.Proofs.YtnodiejfhkjliaaDoor.En Go.Proofs.YtnodiejfhkjliaaDoor.Pl

theorem as_bool {f : FuncId} {args : Array Value} {w : World} {x v : Bool} (hx : Hid (x = v)) (h : Calls Tryd.prog f args w fun e w' => e = .returned (.bool x) ∧ Below w.heap.size w w') : Calls Tryd.prog f args w fun e w' => e = .returned (.bool v) ∧ Below w.heap.size w w' := by rw [← hx.out]; exact h
set_option maxRecDepth 20000 in
set_option maxHeartbeats 4000000 in
theorem prefixValids_law (f : Int) (hi lo : Nat) (b : Int) (hh : hi < 18446744073709551616) (hl : lo < 18446744073709551616) (w : World) (hE : Env w) :
    Calls Tryd.prog 3 #[.agg #[.int .i64 f, .int .u64 hi, .int .u64 lo, .int .i64 b]] w fun e w' => e = .returned (.bool true) ∧ Below w.heap.size w w' := by
  obtain ⟨u, hu⟩ : ∃ x : Bool, vA f hi lo = x := ⟨_, rfl⟩
  have Hu := Lib.hid hu
  clear hu
  obtain ⟨v, hv⟩ : ∃ x : Bool, vP f hi lo b = x := ⟨_, rfl⟩
  have Hv := Lib.hid hv
  clear hv
  go_enter Tryd.func3, Tryd.ntmps3
  go_wp2_with fail
  refine (as_bool Hu (vaddr_any f hi lo _)).mono ?_
  rintro e w1 ⟨rfl, hb1⟩
  have bo1 : Below w.heap.size w w1 := ((Below.refl _ w).alloc (Nat.le_refl _) _).trans (hb1.mono (by simp <;> omega))
  have c1_0 := keepc hb1 (b := w.heap.size) (o := 0) (v := .int .i64 f) (by go_simp)
  have c1_1 := keepc hb1 (b := w.heap.size) (o := 1) (v := .int .u64 hi) (by go_simp)
  have c1_2 := keepc hb1 (b := w.heap.size) (o := 2) (v := .int .u64 lo) (by go_simp)
  have c1_3 := keepc hb1 (b := w.heap.size) (o := 3) (v := .int .i64 b) (by go_simp)
  have l1 : w.heap.size < w1.heap.size := by
    have := hb1.size
    try simp at this
    omega
  have bl1 : Below w.heap.size w w1 := (Below.refl _ _).trans (bo1.mono (Nat.le_refl _))
  clear hb1 bo1
  go_wp2_with fail
  refine (as_bool Hu (rvaddr_any f hi lo _)).mono ?_
  rintro e w2 ⟨rfl, hb2⟩
  have bo2 := hb2
  have c1_0_2 := keepc bo2 c1_0
  have c1_1_2 := keepc bo2 c1_1
  have c1_2_2 := keepc bo2 c1_2
  have c1_3_2 := keepc bo2 c1_3
  have l1_2 := Nat.lt_of_lt_of_le l1 bo2.size
  have bl2 : Below w.heap.size w w2 := bl1.trans (bo2.mono bl1.size)
  clear c1_0 c1_1 c1_2 c1_3 l1 bl1 hb2 bo2
  go_wp2_with fail
  refine (as_bool Hv (vvalid_any f hi lo b _ hh hl)).mono ?_
  rintro e w3 ⟨rfl, hb3⟩
  have bo3 := hb3
  have c1_0_3 := keepc bo3 c1_0_2
  have c1_1_3 := keepc bo3 c1_1_2
  have c1_2_3 := keepc bo3 c1_2_2
  have c1_3_3 := keepc bo3 c1_3_2
  have l1_3 := Nat.lt_of_lt_of_le l1_2 bo3.size
  have bl3 : Below w.heap.size w w3 := bl2.trans (bo3.mono bl2.size)
  clear c1_0_2 c1_1_2 c1_2_2 c1_3_2 l1_2 bl2 hb3 bo3
  go_wp2_with fail
  refine (as_bool Hv (rvalid_any f hi lo b _ hh hl)).mono ?_
  rintro e w4 ⟨rfl, hb4⟩
  have bo4 := hb4
  have c1_0_4 := keepc bo4 c1_0_3
  have c1_1_4 := keepc bo4 c1_1_3
  have c1_2_4 := keepc bo4 c1_2_3
  have c1_3_4 := keepc bo4 c1_3_3
  have l1_4 := Nat.lt_of_lt_of_le l1_3 bo4.size
  have bl4 : Below w.heap.size w w4 := bl3.trans (bo4.mono bl3.size)
  clear c1_0_3 c1_1_3 c1_2_3 c1_3_3 l1_3 bl3 hb4 bo4
  have E4 := hE.on (bl4)
  go_wp2_with fail
  refine (first_any _ E4).mono ?_
  rintro e w5 ⟨rfl, hb5⟩
  have bo5 := hb5
  have c1_0_5 := keepc bo5 c1_0_4
  have c1_1_5 := keepc bo5 c1_1_4
  have c1_2_5 := keepc bo5 c1_2_4
  have c1_3_5 := keepc bo5 c1_3_4
  have l1_5 := Nat.lt_of_lt_of_le l1_4 bo5.size
  have bl5 : Below w.heap.size w w5 := bl4.trans (bo5.mono bl4.size)
  clear c1_0_4 c1_1_4 c1_2_4 c1_3_4 l1_4 bl4 hb5 bo5 E4
  go_wp2
  go_ret
  exact ⟨rfl, bl5⟩

set_option maxRecDepth 20000 in
set_option maxHeartbeats 4000000 in
theorem prefixHolds_law (f : Int) (hi lo : Nat) (b : Int) (hh : hi < 18446744073709551616) (hl : lo < 18446744073709551616) (f2 : Int) (hi2 lo2 : Nat) (hh2 : hi2 < 18446744073709551616) (hl2 : lo2 < 18446744073709551616) (w : World) (hE : Env w) :
    Calls Tryd.prog 4 #[.agg #[.int .i64 f, .int .u64 hi, .int .u64 lo, .int .i64 b], .agg #[.int .i64 f2, .int .u64 hi2, .int .u64 lo2]] w fun e w' => e = .returned (.bool true) ∧ Below w.heap.size w w' := by
  obtain ⟨u, hu⟩ : ∃ x : Bool, hld f hi lo b f2 hi2 lo2 = x := ⟨_, rfl⟩
  have Hu := Lib.hid hu
  clear hu
  go_enter Tryd.func4, Tryd.ntmps4
  go_wp2_with fail
  refine (as_bool Hu (vholds_any f hi lo b f2 hi2 lo2 _ hh hl hh2 hl2)).mono ?_
  rintro e w1 ⟨rfl, hb1⟩
  have bo1 : Below w.heap.size w w1 := (((Below.refl _ w).alloc (Nat.le_refl _) _).alloc (by simp) _).trans (hb1.mono (by simp <;> omega))
  have c1_0 := keepc hb1 (b := w.heap.size) (o := 0) (v := .int .i64 f) (by go_simp)
  have c1_1 := keepc hb1 (b := w.heap.size) (o := 1) (v := .int .u64 hi) (by go_simp)
  have c1_2 := keepc hb1 (b := w.heap.size) (o := 2) (v := .int .u64 lo) (by go_simp)
  have c1_3 := keepc hb1 (b := w.heap.size) (o := 3) (v := .int .i64 b) (by go_simp)
  have l1 : w.heap.size < w1.heap.size := by
    have := hb1.size
    try simp at this
    omega
  have c2_0 := keepc hb1 (b := w.heap.size + 1) (o := 0) (v := .int .i64 f2) (by go_simp)
  have c2_1 := keepc hb1 (b := w.heap.size + 1) (o := 1) (v := .int .u64 hi2) (by go_simp)
  have c2_2 := keepc hb1 (b := w.heap.size + 1) (o := 2) (v := .int .u64 lo2) (by go_simp)
  have l2 : w.heap.size + 1 < w1.heap.size := by
    have := hb1.size
    try simp at this
    omega
  have bl1 : Below w.heap.size w w1 := (Below.refl _ _).trans (bo1.mono (Nat.le_refl _))
  clear hb1 bo1
  go_wp2_with fail
  refine (as_bool Hu (rholds_any f hi lo b f2 hi2 lo2 _ hh hl hh2 hl2)).mono ?_
  rintro e w2 ⟨rfl, hb2⟩
  have bo2 := hb2
  have c1_0_2 := keepc bo2 c1_0
  have c1_1_2 := keepc bo2 c1_1
  have c1_2_2 := keepc bo2 c1_2
  have c1_3_2 := keepc bo2 c1_3
  have l1_2 := Nat.lt_of_lt_of_le l1 bo2.size
  have c2_0_2 := keepc bo2 c2_0
  have c2_1_2 := keepc bo2 c2_1
  have c2_2_2 := keepc bo2 c2_2
  have l2_2 := Nat.lt_of_lt_of_le l2 bo2.size
  have bl2 : Below w.heap.size w w2 := bl1.trans (bo2.mono bl1.size)
  clear c1_0 c1_1 c1_2 c1_3 l1 c2_0 c2_1 c2_2 l2 bl1 hb2 bo2
  have E2 := hE.on (bl2)
  go_wp2_with fail
  refine (first_any _ E2).mono ?_
  rintro e w3 ⟨rfl, hb3⟩
  have bo3 := hb3
  have c1_0_3 := keepc bo3 c1_0_2
  have c1_1_3 := keepc bo3 c1_1_2
  have c1_2_3 := keepc bo3 c1_2_2
  have c1_3_3 := keepc bo3 c1_3_2
  have l1_3 := Nat.lt_of_lt_of_le l1_2 bo3.size
  have c2_0_3 := keepc bo3 c2_0_2
  have c2_1_3 := keepc bo3 c2_1_2
  have c2_2_3 := keepc bo3 c2_2_2
  have l2_3 := Nat.lt_of_lt_of_le l2_2 bo3.size
  have bl3 : Below w.heap.size w w3 := bl2.trans (bo3.mono bl2.size)
  clear c1_0_2 c1_1_2 c1_2_2 c1_3_2 l1_2 c2_0_2 c2_1_2 c2_2_2 l2_2 bl2 hb3 bo3 E2
  go_wp2
  go_ret
  exact ⟨rfl, bl3⟩


end Go.Proofs.YtnodiejfhkjliaaDoor.Pf
