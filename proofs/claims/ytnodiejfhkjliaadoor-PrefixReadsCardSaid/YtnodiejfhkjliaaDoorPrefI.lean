/- Contract: a valid prefix, by the program. -/
import Derived.Test.YtnodiejfhkjliaaDoorPrefH
import Derived.Test.YtnodiejfhkjliaaDoorAfter
namespace Go.Proofs.YtnodiejfhkjliaaDoor.Pf
open Go.RowKit Go.Proofs.YtnodiejfhkjliaaDoor.Wd Go.Proofs.YtnodiejfhkjliaaDoor.Px

theorem vaddr_as {f : Int} {hi lo : Nat} {X : Bool} (h : Hid (vA f hi lo = X)) (w : World) :
    Calls Tryd.prog 13 #[.agg #[.int .i64 f, .int .u64 hi, .int .u64 lo]] w fun e w' => e = .returned (.bool X) ∧ Below w.heap.size w w' := by
  have := vaddr_any f hi lo w
  rwa [h.out] at this
theorem width_as {f : Int} {n : Nat} (h : Hid (wid f = n)) (w : World) :
    Calls Tryd.prog 42 #[.int .i64 f] w fun e w' => e = .returned (.int .i64 n) ∧ w' = w := by
  have := width_any f w
  rwa [h.out] at this
theorem cut_as {f : Int} {hi lo b x y : Nat} (hx : Hid (ctH f hi b = x)) (hy : Hid (ctL f lo b = y)) (w : World) (hh : hi < 18446744073709551616) (hl : lo < 18446744073709551616) (hv : f = 6 ∨ f = 4) (hb : b ≤ wid f) :
    Calls Tryd.prog 43 #[.agg #[.int .i64 f, .int .u64 hi, .int .u64 lo], .int .i64 b] w fun e w' => e = .returned (.agg #[.int .i64 f, .int .u64 x, .int .u64 y]) ∧ Below w.heap.size w w' := by
  have := cut_any f hi lo b w hh hl hv hb
  rwa [hx.out, hy.out] at this

theorem ne_hi (f : Int) (hi lo x y : Nat) (h2 : ¬ x = hi) (W : World) : (Op.equalIn 10000 24 (.agg #[.int .i64 f, .int .u64 x, .int .u64 y]) (.agg #[.int .i64 f, .int .u64 hi, .int .u64 lo])).run Tryd.prog W = .ok false W := by
  have h3 : ¬ (x : Int) = (hi : Int) := by omega
  go_simp
theorem ne_lo (f : Int) (hi lo y : Nat) (h2 : ¬ y = lo) (W : World) : (Op.equalIn 10000 24 (.agg #[.int .i64 f, .int .u64 hi, .int .u64 y]) (.agg #[.int .i64 f, .int .u64 hi, .int .u64 lo])).run Tryd.prog W = .ok false W := by
  have h3 : ¬ (y : Int) = (lo : Int) := by omega
  go_simp

set_option maxRecDepth 20000 in
set_option maxHeartbeats 2000000 in
theorem vvalid_notA (f : Int) (hi lo : Nat) (b : Int) (w : World) (HV : Hid (vA f hi lo = false)) :
    Calls Tryd.prog 15 #[.agg #[.int .i64 f, .int .u64 hi, .int .u64 lo, .int .i64 b]] w fun e w' => e = .returned (.bool false) ∧ Below w.heap.size w w' := by
  have hp := pb_new w f hi lo b 26
  have hbl := one w (.cells #[.int .i64 f, .int .u64 hi, .int .u64 lo, .int .i64 b] 26)
  go_enter Tryd.func15, Tryd.ntmps15
  go_upto_region 1 with fail
  generalize w.alloc (.cells #[.int .i64 f, .int .u64 hi, .int .u64 lo, .int .i64 b] 26) = w1 at hp hbl ⊢
  have e0 := after_cell hp.c0
  have e1 := after_cell hp.c1
  have e2 := after_cell hp.c2
  have e3 := after_cell hp.c3
  clear hp
  refine wp_region_after (by kernel_rfl) (by kernel_rfl) ?_
  repeat (go_big_quiet_step ((first
    | (go_at_call 13; exact after_of (vaddr_as HV _)))))
  refine wpQuiet_nil ?_
  rintro _ ⟨x, rfl⟩
  have hx := x.b
  go_wp2
  go_ret
  exact ⟨rfl, hbl.trans (hx.mono hbl.size)⟩

set_option maxRecDepth 20000 in
set_option maxHeartbeats 2000000 in
theorem vvalid_neg (f : Int) (hi lo : Nat) (b : Int) (w : World) (HV : Hid (vA f hi lo = true)) (h : b < 0) :
    Calls Tryd.prog 15 #[.agg #[.int .i64 f, .int .u64 hi, .int .u64 lo, .int .i64 b]] w fun e w' => e = .returned (.bool false) ∧ Below w.heap.size w w' := by
  have hp := pb_new w f hi lo b 26
  have hbl := one w (.cells #[.int .i64 f, .int .u64 hi, .int .u64 lo, .int .i64 b] 26)
  have d3 : decide ((0 : Int) ≤ b) = false := decide_eq_false (by omega)
  go_enter Tryd.func15, Tryd.ntmps15
  go_upto_region 1 with fail
  generalize w.alloc (.cells #[.int .i64 f, .int .u64 hi, .int .u64 lo, .int .i64 b] 26) = w1 at hp hbl ⊢
  have e0 := after_cell hp.c0
  have e1 := after_cell hp.c1
  have e2 := after_cell hp.c2
  have e3 := after_cell hp.c3
  clear hp
  refine wp_region_after (by kernel_rfl) (by kernel_rfl) ?_
  repeat (go_big_quiet_step ((first
    | (go_at_call 13; exact after_of (vaddr_as HV _)))))
  refine wpQuiet_nil ?_
  rintro _ ⟨x, rfl⟩
  have hx := x.b
  go_wp2
  go_ret
  exact ⟨rfl, hbl.trans (hx.mono hbl.size)⟩

set_option maxRecDepth 20000 in
set_option maxHeartbeats 2000000 in
theorem vvalid_big (f : Int) (hi lo n : Nat) (b : Int) (w : World) (HV : Hid (vA f hi lo = true)) (HN : Hid (wid f = n)) (h : (n : Int) < b) :
    Calls Tryd.prog 15 #[.agg #[.int .i64 f, .int .u64 hi, .int .u64 lo, .int .i64 b]] w fun e w' => e = .returned (.bool false) ∧ Below w.heap.size w w' := by
  have hp := pb_new w f hi lo b 26
  have hbl := one w (.cells #[.int .i64 f, .int .u64 hi, .int .u64 lo, .int .i64 b] 26)
  have d3 : decide ((0 : Int) ≤ b) = true := decide_eq_true (by omega)
  have d4 : decide (b ≤ (n : Int)) = false := decide_eq_false (by omega)
  go_enter Tryd.func15, Tryd.ntmps15
  go_upto_region 1 with fail
  generalize w.alloc (.cells #[.int .i64 f, .int .u64 hi, .int .u64 lo, .int .i64 b] 26) = w1 at hp hbl ⊢
  have e0 := after_cell hp.c0
  have e1 := after_cell hp.c1
  have e2 := after_cell hp.c2
  have e3 := after_cell hp.c3
  clear hp
  refine wp_region_after (by kernel_rfl) (by kernel_rfl) ?_
  repeat (go_big_quiet_step ((first
    | (go_at_call 13; exact after_of (vaddr_as HV _))
    | (go_at_call 42; exact after_same (width_as HN _)))))
  refine wpQuiet_nil ?_
  rintro _ ⟨x, rfl⟩
  have hx := x.b
  go_wp2
  go_ret
  exact ⟨rfl, hbl.trans (hx.mono hbl.size)⟩

set_option maxRecDepth 20000 in
set_option maxHeartbeats 2000000 in
theorem vvalid_yes (f : Int) (hi lo b n : Nat) (w : World) (hh : hi < 18446744073709551616) (hl : lo < 18446744073709551616) (HV : Hid (vA f hi lo = true)) (HN : Hid (wid f = n)) (hbn : b ≤ n) (hf : Hid (f = 6 ∨ f = 4)) (HX : Hid (ctH f hi b = hi)) (HY : Hid (ctL f lo b = lo)) :
    Calls Tryd.prog 15 #[.agg #[.int .i64 f, .int .u64 hi, .int .u64 lo, .int .i64 b]] w fun e w' => e = .returned (.bool true) ∧ Below w.heap.size w w' := by
  have hp := pb_new w f hi lo b 26
  have hbl := one w (.cells #[.int .i64 f, .int .u64 hi, .int .u64 lo, .int .i64 b] 26)
  have d1 : (0 : Int) ≤ (b : Int) := by omega
  have d2 : (b : Int) ≤ (n : Int) := by omega
  have d3 : decide ((0 : Int) ≤ (b : Int)) = true := decide_eq_true d1
  have d4 : decide ((b : Int) ≤ (n : Int)) = true := decide_eq_true d2
  go_enter Tryd.func15, Tryd.ntmps15
  go_upto_region 1 with fail
  generalize w.alloc (.cells #[.int .i64 f, .int .u64 hi, .int .u64 lo, .int .i64 b] 26) = w1 at hp hbl ⊢
  have e0 := after_cell hp.c0
  have e1 := after_cell hp.c1
  have e2 := after_cell hp.c2
  have e3 := after_cell hp.c3
  clear hp
  refine wp_region_after (by kernel_rfl) (by kernel_rfl) ?_
  repeat (go_big_quiet_step ((first
    | (go_at_call 13; exact after_of (vaddr_as HV _))
    | (go_at_call 42; exact after_same (width_as HN _))
    | (go_at_call 43; exact after_of (cut_as HX HY _ hh hl hf.out (by rw [HN.out]; exact hbn))))))
  refine wpQuiet_nil ?_
  rintro _ ⟨x, rfl⟩
  have hx := x.b
  go_wp2
  go_ret
  exact ⟨rfl, hbl.trans (hx.mono hbl.size)⟩

set_option maxRecDepth 20000 in
set_option maxHeartbeats 2000000 in
theorem vvalid_no1 (f : Int) (hi lo b n x y : Nat) (w : World) (hh : hi < 18446744073709551616) (hl : lo < 18446744073709551616) (HV : Hid (vA f hi lo = true)) (HN : Hid (wid f = n)) (hbn : b ≤ n) (hf : Hid (f = 6 ∨ f = 4)) (HX : Hid (ctH f hi b = x)) (HY : Hid (ctL f lo b = y)) (hxy : ¬ x = hi) :
    Calls Tryd.prog 15 #[.agg #[.int .i64 f, .int .u64 hi, .int .u64 lo, .int .i64 b]] w fun e w' => e = .returned (.bool false) ∧ Below w.heap.size w w' := by
  have hp := pb_new w f hi lo b 26
  have hbl := one w (.cells #[.int .i64 f, .int .u64 hi, .int .u64 lo, .int .i64 b] 26)
  have heq := ne_hi f hi lo x y hxy
  have d1 : (0 : Int) ≤ (b : Int) := by omega
  have d2 : (b : Int) ≤ (n : Int) := by omega
  have d3 : decide ((0 : Int) ≤ (b : Int)) = true := decide_eq_true d1
  have d4 : decide ((b : Int) ≤ (n : Int)) = true := decide_eq_true d2
  go_enter Tryd.func15, Tryd.ntmps15
  go_upto_region 1 with fail
  generalize w.alloc (.cells #[.int .i64 f, .int .u64 hi, .int .u64 lo, .int .i64 b] 26) = w1 at hp hbl ⊢
  have e0 := after_cell hp.c0
  have e1 := after_cell hp.c1
  have e2 := after_cell hp.c2
  have e3 := after_cell hp.c3
  clear hp
  refine wp_region_after (by kernel_rfl) (by kernel_rfl) ?_
  repeat (go_big_quiet_step ((first
    | (go_at_call 13; exact after_of (vaddr_as HV _))
    | (go_at_call 42; exact after_same (width_as HN _))
    | (go_at_call 43; exact after_of (cut_as HX HY _ hh hl hf.out (by rw [HN.out]; exact hbn))))))
  refine wpQuiet_nil ?_
  rintro _ ⟨x, rfl⟩
  have hx := x.b
  go_wp2
  go_ret
  exact ⟨rfl, hbl.trans (hx.mono hbl.size)⟩

set_option maxRecDepth 20000 in
set_option maxHeartbeats 2000000 in
theorem vvalid_no2 (f : Int) (hi lo b n y : Nat) (w : World) (hh : hi < 18446744073709551616) (hl : lo < 18446744073709551616) (HV : Hid (vA f hi lo = true)) (HN : Hid (wid f = n)) (hbn : b ≤ n) (hf : Hid (f = 6 ∨ f = 4)) (HX : Hid (ctH f hi b = hi)) (HY : Hid (ctL f lo b = y)) (hxy : ¬ y = lo) :
    Calls Tryd.prog 15 #[.agg #[.int .i64 f, .int .u64 hi, .int .u64 lo, .int .i64 b]] w fun e w' => e = .returned (.bool false) ∧ Below w.heap.size w w' := by
  have hp := pb_new w f hi lo b 26
  have hbl := one w (.cells #[.int .i64 f, .int .u64 hi, .int .u64 lo, .int .i64 b] 26)
  have heq := ne_lo f hi lo y hxy
  have d1 : (0 : Int) ≤ (b : Int) := by omega
  have d2 : (b : Int) ≤ (n : Int) := by omega
  have d3 : decide ((0 : Int) ≤ (b : Int)) = true := decide_eq_true d1
  have d4 : decide ((b : Int) ≤ (n : Int)) = true := decide_eq_true d2
  go_enter Tryd.func15, Tryd.ntmps15
  go_upto_region 1 with fail
  generalize w.alloc (.cells #[.int .i64 f, .int .u64 hi, .int .u64 lo, .int .i64 b] 26) = w1 at hp hbl ⊢
  have e0 := after_cell hp.c0
  have e1 := after_cell hp.c1
  have e2 := after_cell hp.c2
  have e3 := after_cell hp.c3
  clear hp
  refine wp_region_after (by kernel_rfl) (by kernel_rfl) ?_
  repeat (go_big_quiet_step ((first
    | (go_at_call 13; exact after_of (vaddr_as HV _))
    | (go_at_call 42; exact after_same (width_as HN _))
    | (go_at_call 43; exact after_of (cut_as HX HY _ hh hl hf.out (by rw [HN.out]; exact hbn))))))
  refine wpQuiet_nil ?_
  rintro _ ⟨x, rfl⟩
  have hx := x.b
  go_wp2
  go_ret
  exact ⟨rfl, hbl.trans (hx.mono hbl.size)⟩

theorem vvalid_any (f : Int) (hi lo : Nat) (b : Int) (w : World) (hh : hi < 18446744073709551616) (hl : lo < 18446744073709551616) :
    Calls Tryd.prog 15 #[.agg #[.int .i64 f, .int .u64 hi, .int .u64 lo, .int .i64 b]] w fun e w' => e = .returned (.bool (vP f hi lo b)) ∧ Below w.heap.size w w' := by
  cases hv : vA f hi lo with
  | false => rw [show vP f hi lo b = false by simp [vP, hv]]; exact vvalid_notA f hi lo b w (Lib.hid hv)
  | true =>
    by_cases h1 : b < 0
    · rw [show vP f hi lo b = false by rw [← Bool.not_eq_true, vP_iff]; omega]; exact vvalid_neg f hi lo b w (Lib.hid hv) h1
    · by_cases h2 : (wid f : Int) < b
      · rw [show vP f hi lo b = false by rw [← Bool.not_eq_true, vP_iff]; omega]; exact vvalid_big f hi lo _ b w (Lib.hid hv) (Lib.hid rfl) h2
      · obtain ⟨c, rfl⟩ : ∃ c : Nat, b = c := ⟨b.toNat, by omega⟩
        have hc : c ≤ wid f := by omega
        have hf : f = 6 ∨ f = 4 := by rcases (vA_iff f hi lo).1 hv with h | ⟨h, -⟩ <;> simp [h]
        have hct := ct_self f hi lo c hl hv hc
        have hvp : vP f hi lo c = decide (ctH f hi c = hi ∧ ctL f lo c = lo) := by
          rw [Bool.eq_iff_iff, vP_iff, decide_eq_true_iff, hct, Int.toNat_natCast]
          exact ⟨fun h => h.2.2.2, fun h => ⟨hv, by omega, by omega, h⟩⟩
        rw [hvp]
        by_cases hx : ctH f hi c = hi
        · by_cases hy : ctL f lo c = lo
          · rw [show decide (ctH f hi c = hi ∧ ctL f lo c = lo) = true by simp [hx, hy]]
            exact vvalid_yes f hi lo c _ w hh hl (Lib.hid hv) (Lib.hid rfl) hc (Lib.hid hf) (Lib.hid hx) (Lib.hid hy)
          · rw [show decide (ctH f hi c = hi ∧ ctL f lo c = lo) = false by simp [hy]]
            exact vvalid_no2 f hi lo c _ _ w hh hl (Lib.hid hv) (Lib.hid rfl) hc (Lib.hid hf) (Lib.hid hx) (Lib.hid rfl) hy
        · rw [show decide (ctH f hi c = hi ∧ ctL f lo c = lo) = false by simp [hx]]
          exact vvalid_no1 f hi lo c _ _ _ w hh hl (Lib.hid hv) (Lib.hid rfl) hc (Lib.hid hf) (Lib.hid rfl) (Lib.hid rfl) hx

end Go.Proofs.YtnodiejfhkjliaaDoor.Pf
