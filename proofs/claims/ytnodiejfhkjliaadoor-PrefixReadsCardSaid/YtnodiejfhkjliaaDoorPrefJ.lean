/- Contract: a held address, by the program. -/
import Derived.Test.YtnodiejfhkjliaaDoorPrefI
namespace Go.Proofs.YtnodiejfhkjliaaDoor.Pf
open Go.RowKit Go.Proofs.YtnodiejfhkjliaaDoor.Wd Go.Proofs.YtnodiejfhkjliaaDoor.Px

theorem vvalid_as {f : Int} {hi lo : Nat} {b : Int} {X : Bool} (h : Hid (vP f hi lo b = X)) (w : World) (hh : hi < 18446744073709551616) (hl : lo < 18446744073709551616) :
    Calls Tryd.prog 15 #[.agg #[.int .i64 f, .int .u64 hi, .int .u64 lo, .int .i64 b]] w fun e w' => e = .returned (.bool X) ∧ Below w.heap.size w w' := by
  have := vvalid_any f hi lo b w hh hl
  rwa [h.out] at this

set_option maxRecDepth 20000 in
set_option maxHeartbeats 2000000 in
theorem vholds_no1 (f : Int) (hi lo : Nat) (b : Int) (f' : Int) (hi' lo' : Nat) (w : World) (hh : hi < 18446744073709551616) (hl : lo < 18446744073709551616) (HP : Hid (vP f hi lo b = false)) :
    Calls Tryd.prog 18 #[.agg #[.int .i64 f, .int .u64 hi, .int .u64 lo, .int .i64 b], .agg #[.int .i64 f', .int .u64 hi', .int .u64 lo']] w fun e w' => e = .returned (.bool false) ∧ Below w.heap.size w w' := by
  have hp := (pb_new w f hi lo b 26).on (one _ (.cells #[.int .i64 f', .int .u64 hi', .int .u64 lo'] 24))
  have ha := ab_new (w.alloc (.cells #[.int .i64 f, .int .u64 hi, .int .u64 lo, .int .i64 b] 26)) f' hi' lo' 24
  have hbl := two w (.cells #[.int .i64 f, .int .u64 hi, .int .u64 lo, .int .i64 b] 26) (.cells #[.int .i64 f', .int .u64 hi', .int .u64 lo'] 24)
  rw [World.size_alloc] at ha
  go_enter Tryd.func18, Tryd.ntmps18
  go_upto_region 1 with fail
  generalize (w.alloc (.cells #[.int .i64 f, .int .u64 hi, .int .u64 lo, .int .i64 b] 26)).alloc (.cells #[.int .i64 f', .int .u64 hi', .int .u64 lo'] 24) = w1 at hp ha hbl ⊢
  have e0 := after_cell hp.c0
  have e1 := after_cell hp.c1
  have e2 := after_cell hp.c2
  have e3 := after_cell hp.c3
  have a0 := after_cell ha.c0
  have a1 := after_cell ha.c1
  have a2 := after_cell ha.c2
  clear hp ha
  refine wp_region_after (by kernel_rfl) (by kernel_rfl) ?_
  repeat (go_big_quiet_step ((first
    | (go_at_call 15; exact after_of (vvalid_as HP _ hh hl)))))
  refine wpQuiet_nil ?_
  rintro _ ⟨x, rfl⟩
  have hx := x.b
  go_wp2
  go_ret
  exact ⟨rfl, hbl.trans (hx.mono hbl.size)⟩

set_option maxRecDepth 20000 in
set_option maxHeartbeats 2000000 in
theorem vholds_no2 (f : Int) (hi lo : Nat) (b : Int) (f' : Int) (hi' lo' : Nat) (w : World) (hh : hi < 18446744073709551616) (hl : lo < 18446744073709551616) (HP : Hid (vP f hi lo b = true)) (HV : Hid (vA f' hi' lo' = false)) :
    Calls Tryd.prog 18 #[.agg #[.int .i64 f, .int .u64 hi, .int .u64 lo, .int .i64 b], .agg #[.int .i64 f', .int .u64 hi', .int .u64 lo']] w fun e w' => e = .returned (.bool false) ∧ Below w.heap.size w w' := by
  have hp := (pb_new w f hi lo b 26).on (one _ (.cells #[.int .i64 f', .int .u64 hi', .int .u64 lo'] 24))
  have ha := ab_new (w.alloc (.cells #[.int .i64 f, .int .u64 hi, .int .u64 lo, .int .i64 b] 26)) f' hi' lo' 24
  have hbl := two w (.cells #[.int .i64 f, .int .u64 hi, .int .u64 lo, .int .i64 b] 26) (.cells #[.int .i64 f', .int .u64 hi', .int .u64 lo'] 24)
  rw [World.size_alloc] at ha
  go_enter Tryd.func18, Tryd.ntmps18
  go_upto_region 1 with fail
  generalize (w.alloc (.cells #[.int .i64 f, .int .u64 hi, .int .u64 lo, .int .i64 b] 26)).alloc (.cells #[.int .i64 f', .int .u64 hi', .int .u64 lo'] 24) = w1 at hp ha hbl ⊢
  have e0 := after_cell hp.c0
  have e1 := after_cell hp.c1
  have e2 := after_cell hp.c2
  have e3 := after_cell hp.c3
  have a0 := after_cell ha.c0
  have a1 := after_cell ha.c1
  have a2 := after_cell ha.c2
  clear hp ha
  refine wp_region_after (by kernel_rfl) (by kernel_rfl) ?_
  repeat (go_big_quiet_step ((first
    | (go_at_call 15; exact after_of (vvalid_as HP _ hh hl))
    | (go_at_call 13; exact after_of (vaddr_as HV _)))))
  refine wpQuiet_nil ?_
  rintro _ ⟨x, rfl⟩
  have hx := x.b
  go_wp2
  go_ret
  exact ⟨rfl, hbl.trans (hx.mono hbl.size)⟩

set_option maxRecDepth 20000 in
set_option maxHeartbeats 2000000 in
theorem vholds_no3 (f : Int) (hi lo : Nat) (b : Int) (f' : Int) (hi' lo' : Nat) (w : World) (hh : hi < 18446744073709551616) (hl : lo < 18446744073709551616) (HP : Hid (vP f hi lo b = true)) (HV : Hid (vA f' hi' lo' = true)) (hff : ¬ f = f') :
    Calls Tryd.prog 18 #[.agg #[.int .i64 f, .int .u64 hi, .int .u64 lo, .int .i64 b], .agg #[.int .i64 f', .int .u64 hi', .int .u64 lo']] w fun e w' => e = .returned (.bool false) ∧ Below w.heap.size w w' := by
  have hp := (pb_new w f hi lo b 26).on (one _ (.cells #[.int .i64 f', .int .u64 hi', .int .u64 lo'] 24))
  have ha := ab_new (w.alloc (.cells #[.int .i64 f, .int .u64 hi, .int .u64 lo, .int .i64 b] 26)) f' hi' lo' 24
  have hbl := two w (.cells #[.int .i64 f, .int .u64 hi, .int .u64 lo, .int .i64 b] 26) (.cells #[.int .i64 f', .int .u64 hi', .int .u64 lo'] 24)
  rw [World.size_alloc] at ha
  have d1 : (f == f') = false := by simpa using hff
  clear hff
  go_enter Tryd.func18, Tryd.ntmps18
  go_upto_region 1 with fail
  generalize (w.alloc (.cells #[.int .i64 f, .int .u64 hi, .int .u64 lo, .int .i64 b] 26)).alloc (.cells #[.int .i64 f', .int .u64 hi', .int .u64 lo'] 24) = w1 at hp ha hbl ⊢
  have e0 := after_cell hp.c0
  have e1 := after_cell hp.c1
  have e2 := after_cell hp.c2
  have e3 := after_cell hp.c3
  have a0 := after_cell ha.c0
  have a1 := after_cell ha.c1
  have a2 := after_cell ha.c2
  clear hp ha
  refine wp_region_after (by kernel_rfl) (by kernel_rfl) ?_
  repeat (go_big_quiet_step ((first
    | (go_at_call 15; exact after_of (vvalid_as HP _ hh hl))
    | (go_at_call 13; exact after_of (vaddr_as HV _)))))
  refine wpQuiet_nil ?_
  rintro _ ⟨x, rfl⟩
  have hx := x.b
  go_wp2
  go_ret
  exact ⟨rfl, hbl.trans (hx.mono hbl.size)⟩

set_option maxRecDepth 20000 in
set_option maxHeartbeats 2000000 in
theorem vholds_yes (f : Int) (hi lo b hi' lo' : Nat) (w : World) (hh : hi < 18446744073709551616) (hl : lo < 18446744073709551616) (hh' : hi' < 18446744073709551616) (hl' : lo' < 18446744073709551616) (HP : Hid (vP f hi lo b = true)) (HV : Hid (vA f hi' lo' = true)) (hbn : Hid (b ≤ wid f)) (hf : Hid (f = 6 ∨ f = 4)) (HX : Hid (ctH f hi' b = hi)) (HY : Hid (ctL f lo' b = lo)) :
    Calls Tryd.prog 18 #[.agg #[.int .i64 f, .int .u64 hi, .int .u64 lo, .int .i64 b], .agg #[.int .i64 f, .int .u64 hi', .int .u64 lo']] w fun e w' => e = .returned (.bool true) ∧ Below w.heap.size w w' := by
  have hp := (pb_new w f hi lo b 26).on (one _ (.cells #[.int .i64 f, .int .u64 hi', .int .u64 lo'] 24))
  have ha := ab_new (w.alloc (.cells #[.int .i64 f, .int .u64 hi, .int .u64 lo, .int .i64 b] 26)) f hi' lo' 24
  have hbl := two w (.cells #[.int .i64 f, .int .u64 hi, .int .u64 lo, .int .i64 b] 26) (.cells #[.int .i64 f, .int .u64 hi', .int .u64 lo'] 24)
  rw [World.size_alloc] at ha
  have d1 : (f == f) = true := by simp
  go_enter Tryd.func18, Tryd.ntmps18
  go_upto_region 1 with fail
  generalize (w.alloc (.cells #[.int .i64 f, .int .u64 hi, .int .u64 lo, .int .i64 b] 26)).alloc (.cells #[.int .i64 f, .int .u64 hi', .int .u64 lo'] 24) = w1 at hp ha hbl ⊢
  have e0 := after_cell hp.c0
  have e1 := after_cell hp.c1
  have e2 := after_cell hp.c2
  have e3 := after_cell hp.c3
  have a0 := after_cell ha.c0
  have a1 := after_cell ha.c1
  have a2 := after_cell ha.c2
  clear hp ha
  refine wp_region_after (by kernel_rfl) (by kernel_rfl) ?_
  repeat (go_big_quiet_step ((first
    | (go_at_call 15; exact after_of (vvalid_as HP _ hh hl))
    | (go_at_call 13; exact after_of (vaddr_as HV _))
    | (go_at_call 43; exact after_of (cut_as HX HY _ hh' hl' hf.out hbn.out)))))
  refine wpQuiet_nil ?_
  rintro _ ⟨x, rfl⟩
  have hx := x.b
  go_wp2
  go_ret
  exact ⟨rfl, hbl.trans (hx.mono hbl.size)⟩

set_option maxRecDepth 20000 in
set_option maxHeartbeats 2000000 in
theorem vholds_no4 (f : Int) (hi lo b hi' lo' x y : Nat) (w : World) (hh : hi < 18446744073709551616) (hl : lo < 18446744073709551616) (hh' : hi' < 18446744073709551616) (hl' : lo' < 18446744073709551616) (HP : Hid (vP f hi lo b = true)) (HV : Hid (vA f hi' lo' = true)) (hbn : Hid (b ≤ wid f)) (hf : Hid (f = 6 ∨ f = 4)) (HX : Hid (ctH f hi' b = x)) (HY : Hid (ctL f lo' b = y)) (hxy : ¬ x = hi) :
    Calls Tryd.prog 18 #[.agg #[.int .i64 f, .int .u64 hi, .int .u64 lo, .int .i64 b], .agg #[.int .i64 f, .int .u64 hi', .int .u64 lo']] w fun e w' => e = .returned (.bool false) ∧ Below w.heap.size w w' := by
  have hp := (pb_new w f hi lo b 26).on (one _ (.cells #[.int .i64 f, .int .u64 hi', .int .u64 lo'] 24))
  have ha := ab_new (w.alloc (.cells #[.int .i64 f, .int .u64 hi, .int .u64 lo, .int .i64 b] 26)) f hi' lo' 24
  have hbl := two w (.cells #[.int .i64 f, .int .u64 hi, .int .u64 lo, .int .i64 b] 26) (.cells #[.int .i64 f, .int .u64 hi', .int .u64 lo'] 24)
  rw [World.size_alloc] at ha
  have heq := ne_hi f hi lo x y hxy
  have d1 : (f == f) = true := by simp
  go_enter Tryd.func18, Tryd.ntmps18
  go_upto_region 1 with fail
  generalize (w.alloc (.cells #[.int .i64 f, .int .u64 hi, .int .u64 lo, .int .i64 b] 26)).alloc (.cells #[.int .i64 f, .int .u64 hi', .int .u64 lo'] 24) = w1 at hp ha hbl ⊢
  have e0 := after_cell hp.c0
  have e1 := after_cell hp.c1
  have e2 := after_cell hp.c2
  have e3 := after_cell hp.c3
  have a0 := after_cell ha.c0
  have a1 := after_cell ha.c1
  have a2 := after_cell ha.c2
  clear hp ha
  refine wp_region_after (by kernel_rfl) (by kernel_rfl) ?_
  repeat (go_big_quiet_step ((first
    | (go_at_call 15; exact after_of (vvalid_as HP _ hh hl))
    | (go_at_call 13; exact after_of (vaddr_as HV _))
    | (go_at_call 43; exact after_of (cut_as HX HY _ hh' hl' hf.out hbn.out)))))
  refine wpQuiet_nil ?_
  rintro _ ⟨x, rfl⟩
  have hx := x.b
  go_wp2
  go_ret
  exact ⟨rfl, hbl.trans (hx.mono hbl.size)⟩

set_option maxRecDepth 20000 in
set_option maxHeartbeats 2000000 in
theorem vholds_no5 (f : Int) (hi lo b hi' lo' y : Nat) (w : World) (hh : hi < 18446744073709551616) (hl : lo < 18446744073709551616) (hh' : hi' < 18446744073709551616) (hl' : lo' < 18446744073709551616) (HP : Hid (vP f hi lo b = true)) (HV : Hid (vA f hi' lo' = true)) (hbn : Hid (b ≤ wid f)) (hf : Hid (f = 6 ∨ f = 4)) (HX : Hid (ctH f hi' b = hi)) (HY : Hid (ctL f lo' b = y)) (hxy : ¬ y = lo) :
    Calls Tryd.prog 18 #[.agg #[.int .i64 f, .int .u64 hi, .int .u64 lo, .int .i64 b], .agg #[.int .i64 f, .int .u64 hi', .int .u64 lo']] w fun e w' => e = .returned (.bool false) ∧ Below w.heap.size w w' := by
  have hp := (pb_new w f hi lo b 26).on (one _ (.cells #[.int .i64 f, .int .u64 hi', .int .u64 lo'] 24))
  have ha := ab_new (w.alloc (.cells #[.int .i64 f, .int .u64 hi, .int .u64 lo, .int .i64 b] 26)) f hi' lo' 24
  have hbl := two w (.cells #[.int .i64 f, .int .u64 hi, .int .u64 lo, .int .i64 b] 26) (.cells #[.int .i64 f, .int .u64 hi', .int .u64 lo'] 24)
  rw [World.size_alloc] at ha
  have heq := ne_lo f hi lo y hxy
  have d1 : (f == f) = true := by simp
  go_enter Tryd.func18, Tryd.ntmps18
  go_upto_region 1 with fail
  generalize (w.alloc (.cells #[.int .i64 f, .int .u64 hi, .int .u64 lo, .int .i64 b] 26)).alloc (.cells #[.int .i64 f, .int .u64 hi', .int .u64 lo'] 24) = w1 at hp ha hbl ⊢
  have e0 := after_cell hp.c0
  have e1 := after_cell hp.c1
  have e2 := after_cell hp.c2
  have e3 := after_cell hp.c3
  have a0 := after_cell ha.c0
  have a1 := after_cell ha.c1
  have a2 := after_cell ha.c2
  clear hp ha
  refine wp_region_after (by kernel_rfl) (by kernel_rfl) ?_
  repeat (go_big_quiet_step ((first
    | (go_at_call 15; exact after_of (vvalid_as HP _ hh hl))
    | (go_at_call 13; exact after_of (vaddr_as HV _))
    | (go_at_call 43; exact after_of (cut_as HX HY _ hh' hl' hf.out hbn.out)))))
  refine wpQuiet_nil ?_
  rintro _ ⟨x, rfl⟩
  have hx := x.b
  go_wp2
  go_ret
  exact ⟨rfl, hbl.trans (hx.mono hbl.size)⟩

/-- the cut of an address is a prefix's own address just where the two are alike in its bits -/
theorem ct_other (f : Int) (hi lo hi' lo' b : Nat) (hl : lo < 18446744073709551616) (hl' : lo' < 18446744073709551616) (hv : vP f hi lo b = true) (hv' : vA f hi' lo' = true) (hb : b ≤ wid f) :
    (ctH f hi' b = hi ∧ ctL f lo' b = lo) ↔ num f hi lo / 2 ^ (wid f - b) = num f hi' lo' / 2 ^ (wid f - b) := by
  obtain ⟨hvA, -, -, hz⟩ := (vP_iff f hi lo b).1 hv
  rw [Int.toNat_natCast] at hz
  rcases (vA_iff f hi lo).1 hvA with rfl | ⟨rfl, rfl, -⟩
  · have hb2 : b ≤ 128 := hb
    rw [show wid 6 = 128 from rfl] at hz ⊢
    by_cases h : b ≤ 64
    · rw [zero6_low h hl] at hz
      obtain ⟨rfl, hz⟩ := hz
      rw [div6_low h hl hl', show ctL 6 lo' b = lo' - lo' % 2 ^ 64 by unfold ctL; rw [if_pos rfl, if_pos h], show ctH 6 hi' b = hi' - hi' % 2 ^ (64 - b) from rfl, cut_eq _ _ _ hz, Nat.mod_eq_of_lt (show lo' < 2 ^ 64 from hl'), Nat.sub_self]
      constructor
      · rintro ⟨h1, -⟩; exact h1.symm
      · intro h1; exact ⟨h1.symm, rfl⟩
    · rw [zero6_high (by omega) hb2] at hz
      rw [div6_high (by omega) hb2 hl hl', show ctL 6 lo' b = lo' - lo' % 2 ^ (128 - b) by unfold ctL; rw [if_pos rfl, if_neg h], show ctH 6 hi' b = hi' - hi' % 2 ^ 0 by unfold ctH; rw [if_pos rfl, show 64 - b = 0 by omega], cut_eq _ _ _ hz]
      simp only [Nat.pow_zero, Nat.mod_one, Nat.sub_zero]
      constructor
      · rintro ⟨h1, h2⟩; exact ⟨h1.symm, h2.symm⟩
      · rintro ⟨h1, h2⟩; exact ⟨h1.symm, h2.symm⟩
  · have hh' : hi' = 0 := by
      rcases (vA_iff 4 hi' lo').1 hv' with h | ⟨-, h, -⟩
      · omega
      · exact h
    subst hh'
    rw [show wid 4 = 32 from rfl, show num 4 0 lo = lo from rfl] at hz
    rw [show ctH 4 0 b = 0 from rfl, show ctL 4 lo' b = lo' - lo' % 2 ^ (32 - b) from rfl, cut_eq _ _ _ hz, show wid 4 = 32 from rfl, show num 4 0 lo = lo from rfl, show num 4 0 lo' = lo' from rfl]
    constructor
    · rintro ⟨-, h2⟩; exact h2.symm
    · intro h2; exact ⟨rfl, h2.symm⟩

theorem vholds_any (f : Int) (hi lo : Nat) (b : Int) (f' : Int) (hi' lo' : Nat) (w : World) (hh : hi < 18446744073709551616) (hl : lo < 18446744073709551616) (hh' : hi' < 18446744073709551616) (hl' : lo' < 18446744073709551616) :
    Calls Tryd.prog 18 #[.agg #[.int .i64 f, .int .u64 hi, .int .u64 lo, .int .i64 b], .agg #[.int .i64 f', .int .u64 hi', .int .u64 lo']] w fun e w' => e = .returned (.bool (hld f hi lo b f' hi' lo')) ∧ Below w.heap.size w w' := by
  cases h1 : vP f hi lo b with
  | false => rw [show hld f hi lo b f' hi' lo' = false by simp [hld, h1]]; exact vholds_no1 f hi lo b f' hi' lo' w hh hl (Lib.hid h1)
  | true =>
    cases h2 : vA f' hi' lo' with
    | false => rw [show hld f hi lo b f' hi' lo' = false by simp [hld, h2]]; exact vholds_no2 f hi lo b f' hi' lo' w hh hl (Lib.hid h1) (Lib.hid h2)
    | true =>
      by_cases h3 : f = f'
      · obtain rfl := h3
        obtain ⟨hvA, hb0, hbw, -⟩ := (vP_iff f hi lo b).1 h1
        obtain ⟨c, rfl⟩ : ∃ c : Nat, b = c := ⟨b.toNat, by omega⟩
        have hc : c ≤ wid f := by omega
        have hf : f = 6 ∨ f = 4 := by rcases (vA_iff f hi lo).1 hvA with h | ⟨h, -⟩ <;> simp [h]
        have hct := ct_other f hi lo hi' lo' c hl hl' h1 h2 hc
        have hvp : hld f hi lo c f hi' lo' = decide (ctH f hi' c = hi ∧ ctL f lo' c = lo) := by
          rw [Bool.eq_iff_iff, hld_iff, decide_eq_true_iff, hct, Int.toNat_natCast]
          exact ⟨fun h => h.2.2.2, fun h => ⟨h1, h2, rfl, h⟩⟩
        rw [hvp]
        by_cases hx : ctH f hi' c = hi
        · by_cases hy : ctL f lo' c = lo
          · rw [show decide (ctH f hi' c = hi ∧ ctL f lo' c = lo) = true by simp [hx, hy]]
            exact vholds_yes f hi lo c hi' lo' w hh hl hh' hl' (Lib.hid h1) (Lib.hid h2) (Lib.hid hc) (Lib.hid hf) (Lib.hid hx) (Lib.hid hy)
          · rw [show decide (ctH f hi' c = hi ∧ ctL f lo' c = lo) = false by simp [hy]]
            exact vholds_no5 f hi lo c hi' lo' _ w hh hl hh' hl' (Lib.hid h1) (Lib.hid h2) (Lib.hid hc) (Lib.hid hf) (Lib.hid hx) (Lib.hid rfl) hy
        · rw [show decide (ctH f hi' c = hi ∧ ctL f lo' c = lo) = false by simp [hx]]
          exact vholds_no4 f hi lo c hi' lo' _ _ w hh hl hh' hl' (Lib.hid h1) (Lib.hid h2) (Lib.hid hc) (Lib.hid hf) (Lib.hid rfl) (Lib.hid rfl) hx
      · rw [show hld f hi lo b f' hi' lo' = false by simp [hld, h3]]
        exact vholds_no3 f hi lo b f' hi' lo' w hh hl (Lib.hid h1) (Lib.hid h2) h3

end Go.Proofs.YtnodiejfhkjliaaDoor.Pf
