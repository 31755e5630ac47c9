/- Contracts: a valid prefix for every number of bits; a held address; by the reference. -/
import Derived.Test.YtnodiejfhkjliaaDoorPrefC
namespace Go.Proofs.YtnodiejfhkjliaaDoor.Pf
open Go.RowKit Go.Proofs.YtnodiejfhkjliaaDoor.Wd Go.Proofs.YtnodiejfhkjliaaDoor.Px

set_option maxHeartbeats 2000000 in
theorem rvalid_no (f : Int) (hi lo : Nat) (b : Int) (w : World) (h : vA f hi lo = false ∨ (vA f hi lo = true ∧ (b < 0 ∨ (wid f : Int) < b))) :
    Calls Tryd.prog 16 #[.agg #[.int .i64 f, .int .u64 hi, .int .u64 lo, .int .i64 b]] w fun e w' => e = .returned (.bool false) ∧ Below w.heap.size w w' := by
  obtain ⟨n, hn⟩ : ∃ n, wid f = n := ⟨_, rfl⟩
  rw [hn] at h
  have HN := Lib.hid hn
  clear hn
  have hp := pb_new w f hi lo b 26
  have hbl := one w (.cells #[.int .i64 f, .int .u64 hi, .int .u64 lo, .int .i64 b] 26)
  go_enter Tryd.func16, Tryd.ntmps16
  go_wp2_with fail
  refine (rvaddr_any f hi lo _).mono ?_
  rintro e w1 ⟨rfl, hb2⟩
  have hp1 := hp.on hb2
  have hbl1 := hbl.trans (hb2.mono hbl.size)
  clear hp hbl hb2
  obtain ⟨e0, e1, e2, e3⟩ := hp1
  go_wp2_with fail
  refine (rbits_any f _).mono ?_
  rintro e w2 ⟨rfl, rfl⟩
  rw [HN.out]
  rcases h with h | ⟨hvt, h | h⟩
  · rw [h]
    clear h
    go_wp2
    go_ret
    exact ⟨rfl, hbl1⟩
  · rw [hvt]
    go_wp2
    go_ret
    exact ⟨rfl, hbl1⟩
  · rw [hvt]
    have d1 : decide (b < 0) = false := by rw [decide_eq_false_iff_not]; omega
    go_wp2
    go_ret
    exact ⟨rfl, hbl1⟩
theorem rvalid_any (f : Int) (hi lo : Nat) (b : Int) (w : World) (hh : hi < 18446744073709551616) (hl : lo < 18446744073709551616) :
    Calls Tryd.prog 16 #[.agg #[.int .i64 f, .int .u64 hi, .int .u64 lo, .int .i64 b]] w fun e w' => e = .returned (.bool (vP f hi lo b)) ∧ Below w.heap.size w w' := by
  have no : vP f hi lo b = false → (vA f hi lo = false ∨ (vA f hi lo = true ∧ (b < 0 ∨ (wid f : Int) < b))) → Calls Tryd.prog 16 #[.agg #[.int .i64 f, .int .u64 hi, .int .u64 lo, .int .i64 b]] w fun e w' => e = .returned (.bool (vP f hi lo b)) ∧ Below w.heap.size w w' := fun h1 h2 => by
    rw [h1]; exact rvalid_no f hi lo b w h2
  cases hv : vA f hi lo with
  | false => exact no (by rw [← Bool.not_eq_true, vP_iff]; simp [hv]) (.inl hv)
  | true =>
    by_cases h1 : b < 0
    · exact no (by rw [← Bool.not_eq_true, vP_iff]; omega) (.inr ⟨hv, .inl h1⟩)
    · by_cases h2 : (wid f : Int) < b
      · exact no (by rw [← Bool.not_eq_true, vP_iff]; omega) (.inr ⟨hv, .inr h2⟩)
      · obtain ⟨c, rfl⟩ : ∃ c : Nat, b = c := ⟨b.toNat, by omega⟩
        exact rvalid_loop f hi lo c w hh hl hv (by omega)

end Go.Proofs.YtnodiejfhkjliaaDoor.Pf
