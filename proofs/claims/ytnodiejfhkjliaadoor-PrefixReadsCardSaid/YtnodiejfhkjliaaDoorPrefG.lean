/- Contract: an address's first bits, by the program, family 6. -/
import Derived.Test.YtnodiejfhkjliaaDoorPrefF
namespace Go.Proofs.YtnodiejfhkjliaaDoor.Pf
open Go.RowKit Go.Proofs.YtnodiejfhkjliaaDoor.Wd Go.Proofs.YtnodiejfhkjliaaDoor.Px

theorem Cu.next {w W : World} {f : Int} {hi lo : Nat} (h : Cu w W f hi lo) (x : Nat) : Cu w (W.setCell ⟨w.heap.size, 1, none⟩ (.int .u64 x)).drew f x lo := by
  obtain ⟨c0, c1, c2, f0, z0, z1, z2, f1, hlt, hbl⟩ := h
  have hd : Below (W.setCell ⟨w.heap.size, 1, none⟩ (.int .u64 x)).heap.size (W.setCell ⟨w.heap.size, 1, none⟩ (.int .u64 x)) (W.setCell ⟨w.heap.size, 1, none⟩ (.int .u64 x)).drew := (Below.refl _ _).drew
  have h0 : w.heap.size < (W.setCell ⟨w.heap.size, 1, none⟩ (.int .u64 x)).heap.size := by simp; omega
  have h1 : w.heap.size + 1 < (W.setCell ⟨w.heap.size, 1, none⟩ (.int .u64 x)).heap.size := by simpa using hlt
  exact ⟨keepc hd (by go_simp), keepc hd (by go_simp), keepc hd (by go_simp), keepf hd h0 (fun o => by go_simp), keepc hd (by go_simp), keepc hd (by go_simp), keepc hd (by go_simp), keepf hd h1 (fun o => by go_simp), Nat.lt_of_lt_of_le h1 hd.size, (hbl.setCell (p := ⟨w.heap.size, 1, none⟩) (by simp) _).drew⟩

set_option maxRecDepth 20000 in
set_option maxHeartbeats 2000000 in
theorem cut_6 (hi lo n k j : Nat) (w : World) (hh : hi < 18446744073709551616) (hl : lo < 18446744073709551616) (hk : (n ≤ 64 ∧ k = 64 - n ∧ j = 64) ∨ (64 < n ∧ n ≤ 128 ∧ k = 0 ∧ j = 128 - n)) :
    Calls Tryd.prog 43 #[.agg #[.int .i64 6, .int .u64 hi, .int .u64 lo], .int .i64 n] w fun e w' => e = .returned (.agg #[.int .i64 6, .int .u64 ((hi - hi % 2 ^ k : Nat) : Int), .int .u64 ((lo - lo % 2 ^ j : Nat) : Int)]) ∧ Below w.heap.size w w' := by
  have hk2 : k ≤ 64 := by omega
  have hj2 : j ≤ 64 := by omega
  have HC := Lib.hid (clear_low hi k hh hk2)
  have HD := Lib.hid (clear_low lo j hl hj2)
  have m1 : IntKind.i64.wrap ((64 : Int) - if (64 : Int) < (n : Int) then 64 else (n : Int)) = (k : Int) := by
    rw [IntKind.wrap_i64]
    split <;> omega
  have m2 : IntKind.i64.wrap ((128 : Int) - if (n : Int) < 64 then 64 else (n : Int)) = (j : Int) := by
    rw [IntKind.wrap_i64]
    split <;> omega
  clear hk
  have hwr : IntKind.i64.wrap (k : Int) = k := IntWalk.i64_in _ ⟨by omega, by omega⟩
  have hwj : IntKind.i64.wrap (j : Int) = j := IntWalk.i64_in _ ⟨by omega, by omega⟩
  have hcu := cu_new w 6 hi lo 24
  go_enter Tryd.func43, Tryd.ntmps43
  go_upto_region 4 with fail
  refine wp_region_still_tail 8 (by kernel_rfl) (by kernel_rfl) ?_
  simp only [List.take_succ_cons, List.take_zero, List.drop_succ_cons, List.drop_zero]
  change wpStill _ _ ((w.alloc (.cells #[.int .i64 6, .int .u64 hi, .int .u64 lo] 24)).alloc (.cells #[.int .i64 0, .int .u64 0, .int .u64 0] 24)).drew (fun a' => wpList _ _ _ _ a' ((w.alloc (.cells #[.int .i64 6, .int .u64 hi, .int .u64 lo] 24)).alloc (.cells #[.int .i64 0, .int .u64 0, .int .u64 0] 24)).drew) _ _
  generalize ((w.alloc (.cells #[.int .i64 6, .int .u64 hi, .int .u64 lo] 24)).alloc (.cells #[.int .i64 0, .int .u64 0, .int .u64 0] 24)).drew = wd at hcu ⊢
  obtain ⟨c0, c1, c2, f0, z0, z1, z2, f1, hlt, hbl⟩ := hcu
  repeat still_step
  still_call (ones_any k hk2 _)
  have hc := HC.out
  repeat still_step
  clear hc
  refine wpStill_nil ?_
  have hcu2 := (Cu.mk c0 c1 c2 f0 z0 z1 z2 f1 hlt hbl).next (hi - hi % 2 ^ k)
  go_upto_region 5 with fail
  clear c0 c1 c2 f0 z0 z1 z2 f1 hlt hbl
  refine wp_region_still_tail 8 (by kernel_rfl) (by kernel_rfl) ?_
  simp only [List.take_succ_cons, List.take_zero, List.drop_succ_cons, List.drop_zero]
  change wpStill _ _ (wd.setCell ⟨w.heap.size, 1, none⟩ (.int .u64 ((hi - hi % 2 ^ k : Nat) : Int))).drew (fun a' => wpList _ _ _ _ a' (wd.setCell ⟨w.heap.size, 1, none⟩ (.int .u64 ((hi - hi % 2 ^ k : Nat) : Int))).drew) _ _
  generalize (wd.setCell ⟨w.heap.size, 1, none⟩ (.int .u64 ((hi - hi % 2 ^ k : Nat) : Int))).drew = we at hcu2 ⊢
  obtain ⟨c0, c1, c2, f0, z0, z1, z2, f1, hlt, hbl⟩ := hcu2
  repeat still_step
  still_call (ones_any j hj2 _)
  have hd := HD.out
  repeat still_step
  clear hd
  refine wpStill_nil ?_
  go_wp2
  all_goals exact bodyPost_ret (v := .agg #[.int .i64 6, .int .u64 ((hi - hi % 2 ^ k : Nat) : Int), .int .u64 ((lo - lo % 2 ^ j : Nat) : Int)]) (by simp [results, Tryd.results43, go_sem, *]) rfl ⟨rfl, (((hbl.setCell (p := ⟨w.heap.size, 2, none⟩) (by simp) _).setCell (p := ⟨w.heap.size + 1, 0, none⟩) (by simp) _).setCell (p := ⟨w.heap.size + 1, 1, none⟩) (by simp) _).setCell (p := ⟨w.heap.size + 1, 2, none⟩) (by simp) _⟩

end Go.Proofs.YtnodiejfhkjliaaDoor.Pf
