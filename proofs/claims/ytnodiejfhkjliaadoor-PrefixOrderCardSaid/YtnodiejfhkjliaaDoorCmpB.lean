/- Contracts: Compare, by the program and by the reference. -/
import Derived.Test.YtnodiejfhkjliaaDoorCmpA
import Derived.Deep.RegionHeld3
import Derived.StillTailTactics
import Derived.Deep.DeepCutAuto
namespace Go.Proofs.YtnodiejfhkjliaaDoor.Pf
open Go.RowKit Go.Proofs.YtnodiejfhkjliaaDoor.Wd Go.Proofs.YtnodiejfhkjliaaDoor.Px

/-- the order of two prefixes -/
def cmP (f : Int) (hi lo : Nat) (b f2 : Int) (hi2 lo2 : Nat) (b2 : Int) : Int := fnz [cmI f f2, cmI b b2, cmI hi hi2, cmI lo lo2]

/-- two prefixes in two new blocks, a draw -/
theorem pp_new (w : World) (f : Int) (hi lo : Nat) (b f2 : Int) (hi2 lo2 : Nat) (b2 : Int) (t : TypeId) :
    PB ((w.alloc (.cells #[.int .i64 f, .int .u64 hi, .int .u64 lo, .int .i64 b] t)).alloc (.cells #[.int .i64 f2, .int .u64 hi2, .int .u64 lo2, .int .i64 b2] t)).drew w.heap.size f hi lo b ∧
    PB ((w.alloc (.cells #[.int .i64 f, .int .u64 hi, .int .u64 lo, .int .i64 b] t)).alloc (.cells #[.int .i64 f2, .int .u64 hi2, .int .u64 lo2, .int .i64 b2] t)).drew (w.heap.size + 1) f2 hi2 lo2 b2 ∧
    Below w.heap.size w ((w.alloc (.cells #[.int .i64 f, .int .u64 hi, .int .u64 lo, .int .i64 b] t)).alloc (.cells #[.int .i64 f2, .int .u64 hi2, .int .u64 lo2, .int .i64 b2] t)).drew :=
  ⟨⟨by go_simp, by go_simp, by go_simp, by go_simp⟩, ⟨by go_simp, by go_simp, by go_simp, by go_simp⟩, (((Below.refl _ w).alloc (Nat.le_refl _) _).alloc (by simp) _).drew⟩

theorem or_4 {x0 x1 x2 x3 v : Int} (h : Hid (fnz [x0, x1, x2, x3] = v)) (W : World) (t : TypeId) :
    Calls Tryd.prog 59 #[.slice (some ⟨W.heap.size, 0, none⟩) 4 4] (W.alloc (.cells #[.int .i64 x0, .int .i64 x1, .int .i64 x2, .int .i64 x3] t)) fun e w' => e = .returned (.int .i64 v) ∧ w' = W.alloc (.cells #[.int .i64 x0, .int .i64 x1, .int .i64 x2, .int .i64 x3] t) := by
  have := or_any [x0, x1, x2, x3] W.heap.size 4 (W.alloc (.cells #[.int .i64 x0, .int .i64 x1, .int .i64 x2, .int .i64 x3] t)) (by simp) (fun i x hx => by
    have hi : i < 4 := (List.getElem?_eq_some_iff.1 hx).1
    rw [World.cell?_alloc_at _ _ _ _ rfl]
    match i, hi with
    | 0, _ => injection hx with hx; subst hx; rfl
    | 1, _ => injection hx with hx; subst hx; rfl
    | 2, _ => injection hx with hx; subst hx; rfl
    | 3, _ => injection hx with hx; subst hx; rfl)
  rw [h.out] at this
  exact this
theorem cmp_int_as {a b v : Int} (h : Hid (cmI a b = v)) (w : World) : Calls Tryd.prog 60 #[.int .i64 a, .int .i64 b] w fun e w' => e = .returned (.int .i64 v) ∧ w' = w := by
  have := cmp_int a b w
  rwa [h.out] at this
theorem cmp_u64_as {a b v : Int} (h : Hid (cmI a b = v)) (w : World) : Calls Tryd.prog 61 #[.int .u64 a, .int .u64 b] w fun e w' => e = .returned (.int .i64 v) ∧ w' = w := by
  have := cmp_u64 a b w
  rwa [h.out] at this

set_option maxRecDepth 20000 in
set_option maxHeartbeats 2000000 in
theorem compare_any (f : Int) (hi lo : Nat) (b f2 : Int) (hi2 lo2 : Nat) (b2 : Int) (w : World) :
    Calls Tryd.prog 36 #[.agg #[.int .i64 f, .int .u64 hi, .int .u64 lo, .int .i64 b], .agg #[.int .i64 f2, .int .u64 hi2, .int .u64 lo2, .int .i64 b2]] w fun e w' => e = .returned (.int .i64 (cmP f hi lo b f2 hi2 lo2 b2)) ∧ Below w.heap.size w w' := by
  unfold cmP
  obtain ⟨x0, h0⟩ : ∃ x, cmI f f2 = x := ⟨_, rfl⟩
  obtain ⟨x1, h1⟩ : ∃ x, cmI b b2 = x := ⟨_, rfl⟩
  obtain ⟨x2, h2⟩ : ∃ x, cmI hi hi2 = x := ⟨_, rfl⟩
  obtain ⟨x3, h3⟩ : ∃ x, cmI lo lo2 = x := ⟨_, rfl⟩
  rw [h0, h1, h2, h3]
  obtain ⟨v, hv⟩ : ∃ v, fnz [x0, x1, x2, x3] = v := ⟨_, rfl⟩
  rw [hv]
  have H0 := Lib.hid h0
  have H1 := Lib.hid h1
  have H2 := Lib.hid h2
  have H3 := Lib.hid h3
  have HV := Lib.hid hv
  clear h0 h1 h2 h3 hv
  obtain ⟨hp, hq, hbl⟩ := pp_new w f hi lo b f2 hi2 lo2 b2 26
  go_enter Tryd.func36, Tryd.ntmps36
  go_upto_region 1 with fail
  refine wp_region_still_tail 26 (by kernel_rfl) (by kernel_rfl) ?_
  simp only [List.take_succ_cons, List.take_zero, List.drop_succ_cons, List.drop_zero]
  change wpStill _ _ ((w.alloc (.cells #[.int .i64 f, .int .u64 hi, .int .u64 lo, .int .i64 b] 26)).alloc (.cells #[.int .i64 f2, .int .u64 hi2, .int .u64 lo2, .int .i64 b2] 26)).drew (fun a' => wpList _ _ _ _ a' ((w.alloc (.cells #[.int .i64 f, .int .u64 hi, .int .u64 lo, .int .i64 b] 26)).alloc (.cells #[.int .i64 f2, .int .u64 hi2, .int .u64 lo2, .int .i64 b2] 26)).drew) _ _
  generalize ((w.alloc (.cells #[.int .i64 f, .int .u64 hi, .int .u64 lo, .int .i64 b] 26)).alloc (.cells #[.int .i64 f2, .int .u64 hi2, .int .u64 lo2, .int .i64 b2] 26)).drew = wd at hp hq hbl ⊢
  obtain ⟨p0, p1, p2, p3⟩ := hp
  obtain ⟨q0, q1, q2, q3⟩ := hq
  repeat still_step
  still_call (cmp_int_as H0 _)
  repeat still_step
  still_call (cmp_int_as H1 _)
  repeat still_step
  still_call (cmp_u64_as H2 _)
  repeat still_step
  still_call (cmp_u64_as H3 _)
  refine wpStill_nil ?_
  go_wp2_with fail
  refine (or_4 HV _ _).mono ?_
  rintro e w' ⟨rfl, rfl⟩
  go_wp2
  go_ret
  exact ⟨rfl, hbl.alloc hbl.size _⟩

theorem ord_int_as {a b v : Int} (h : Hid (cmI a b = v)) (w : World) : Calls Tryd.prog 62 #[.int .i64 a, .int .i64 b] w fun e w' => e = .returned (.int .i64 v) ∧ w' = w := by
  have := ord_int a b w
  rwa [h.out] at this
theorem ord_u64_as {a b v : Int} (h : Hid (cmI a b = v)) (w : World) : Calls Tryd.prog 63 #[.int .u64 a, .int .u64 b] w fun e w' => e = .returned (.int .i64 v) ∧ w' = w := by
  have := ord_u64 a b w
  rwa [h.out] at this
theorem four_cells (W : World) (x0 x1 x2 x3 : Int) (t : TypeId) : ∀ i x, [x0, x1, x2, x3][i]? = some x → (W.alloc (.cells #[.int .i64 x0, .int .i64 x1, .int .i64 x2, .int .i64 x3] t)).cell? ⟨W.heap.size, i, none⟩ = some (.int .i64 x) := fun i x hx => by
  have hi : i < 4 := (List.getElem?_eq_some_iff.1 hx).1
  rw [World.cell?_alloc_at _ _ _ _ rfl]
  match i, hi with
  | 0, _ => injection hx with hx; subst hx; rfl
  | 1, _ => injection hx with hx; subst hx; rfl
  | 2, _ => injection hx with hx; subst hx; rfl
  | 3, _ => injection hx with hx; subst hx; rfl

set_option maxRecDepth 20000 in
set_option maxHeartbeats 2000000 in
theorem rcompare_any (f : Int) (hi lo : Nat) (b f2 : Int) (hi2 lo2 : Nat) (b2 : Int) (w : World) :
    Calls Tryd.prog 37 #[.agg #[.int .i64 f, .int .u64 hi, .int .u64 lo, .int .i64 b], .agg #[.int .i64 f2, .int .u64 hi2, .int .u64 lo2, .int .i64 b2]] w fun e w' => e = .returned (.int .i64 (cmP f hi lo b f2 hi2 lo2 b2)) ∧ Below w.heap.size w w' := by
  unfold cmP
  obtain ⟨x0, h0⟩ : ∃ x, cmI f f2 = x := ⟨_, rfl⟩
  obtain ⟨x1, h1⟩ : ∃ x, cmI b b2 = x := ⟨_, rfl⟩
  obtain ⟨x2, h2⟩ : ∃ x, cmI hi hi2 = x := ⟨_, rfl⟩
  obtain ⟨x3, h3⟩ : ∃ x, cmI lo lo2 = x := ⟨_, rfl⟩
  rw [h0, h1, h2, h3]
  obtain ⟨v, hv⟩ : ∃ v, fnz [x0, x1, x2, x3] = v := ⟨_, rfl⟩
  rw [hv]
  have H0 := Lib.hid h0
  have H1 := Lib.hid h1
  have H2 := Lib.hid h2
  have H3 := Lib.hid h3
  have HV := Lib.hid hv
  clear h0 h1 h2 h3 hv
  obtain ⟨hp, hq, hbl⟩ := pp_new w f hi lo b f2 hi2 lo2 b2 26
  go_enter Tryd.func37, Tryd.ntmps37
  go_upto_region 1 with fail
  refine wp_region_still_tail 26 (by kernel_rfl) (by kernel_rfl) ?_
  simp only [List.take_succ_cons, List.take_zero, List.drop_succ_cons, List.drop_zero]
  change wpStill _ _ ((w.alloc (.cells #[.int .i64 f, .int .u64 hi, .int .u64 lo, .int .i64 b] 26)).alloc (.cells #[.int .i64 f2, .int .u64 hi2, .int .u64 lo2, .int .i64 b2] 26)).drew (fun a' => wpList _ _ _ _ a' ((w.alloc (.cells #[.int .i64 f, .int .u64 hi, .int .u64 lo, .int .i64 b] 26)).alloc (.cells #[.int .i64 f2, .int .u64 hi2, .int .u64 lo2, .int .i64 b2] 26)).drew) _ _
  generalize ((w.alloc (.cells #[.int .i64 f, .int .u64 hi, .int .u64 lo, .int .i64 b] 26)).alloc (.cells #[.int .i64 f2, .int .u64 hi2, .int .u64 lo2, .int .i64 b2] 26)).drew = wd at hp hq hbl ⊢
  obtain ⟨p0, p1, p2, p3⟩ := hp
  obtain ⟨q0, q1, q2, q3⟩ := hq
  repeat still_step
  still_call (ord_int_as H0 _)
  repeat still_step
  still_call (ord_int_as H1 _)
  repeat still_step
  still_call (ord_u64_as H2 _)
  repeat still_step
  still_call (ord_u64_as H3 _)
  refine wpStill_nil ?_
  clear p0 p1 p2 p3 q0 q1 q2 q3
  have hc4 := four_cells wd x0 x1 x2 x3 3
  have hbl4 := hbl.alloc hbl.size (.cells #[.int .i64 x0, .int .i64 x1, .int .i64 x2, .int .i64 x3] 3)
  go_wp2
  generalize wd.alloc (.cells #[.int .i64 x0, .int .i64 x1, .int .i64 x2, .int .i64 x3] 3) = W at hc4 hbl4 ⊢
  obtain ⟨xs, hxs⟩ : ∃ xs : List Int, xs = [x0, x1, x2, x3] := ⟨_, rfl⟩
  rw [← hxs] at hc4 HV
  have hlen : xs.length = 4 := by rw [hxs]; rfl
  clear hxs
  go_loop [6] (fun i => ∃ k : Nat, k ≤ 4 ∧ i = .int .i64 k ∧ Hid (fnz (xs.drop k) = fnz xs)) (fun i => 4 - (intOf i).toNat)
  case atStart => exact ⟨0, Nat.zero_le _, rfl, Lib.hid rfl⟩
  case round =>
    obtain ⟨k, hk, rfl, HX⟩ := hrel
    by_cases hlt : k < 4
    · have hlt2 : k < xs.length := by omega
      have hcell := hc4 k xs[k] (List.getElem?_eq_getElem hlt2)
      have hd := fnz_drop hlt2
      rw [HX.out] at hd
      obtain ⟨x, hx⟩ : ∃ x, xs[k] = x := ⟨_, rfl⟩
      rw [hx] at hcell hd
      have HD := Lib.hid hd
      clear hx hd hc4
      have i1 : (k : Int) < 4 := by omega
      by_cases hz : x = 0
      · have HZ := Lib.hid hz
        have e2 : (x != 0) = false := by simp [hz]
        clear hz
        go_wp2
        go_round
        case rel => exact ⟨k + 1, by omega, by go_num, Lib.hid (by have := HD.out; rw [if_pos HZ.out] at this; exact this.symm)⟩
        case measure => simp [intOf]; omega
      · have HZ := Lib.hid hz
        have e2 : (x != 0) = true := by simp [hz]
        clear hz
        go_wp2
        go_ret
        exact ⟨ret_i (by have := HD.out; rw [if_neg HZ.out, HV.out] at this; exact this.symm), hbl4⟩
    · have i1 : ¬ (k : Int) < 4 := by omega
      go_wp2
      go_ret
      exact ⟨ret_i (by have := HX.out; rw [List.drop_of_length_le (by omega), HV.out] at this; exact this), hbl4⟩

end Go.Proofs.YtnodiejfhkjliaaDoor.Pf
