/- Contracts of the next stamp, of the program and of the reference. -/
import Derived.Test.YtdpcmokemjfelaaGreatDoorStampA
namespace Go.Proofs.YtdpcmokemjfelaaGreatDoor.St
open Go.RowKit Go.Proofs.YtdpcmokemjfelaaGreatDoor.Wd Go.Proofs.YtdpcmokemjfelaaGreatDoor.Pl

theorem next_bad (s n : Int) (w : World) (h0 : s ≤ 9223372036854775807) (hv : vld s n = false) :
    Calls Tryz.prog 11 #[.agg #[.int .i64 s, .int .i64 n]] w fun e w' => e = .returned (.tuple #[.agg #[.int .i64 0, .int .i64 0], .bool false]) ∧ Below w.heap.size w w' := by
  go_enter Tryz.func11, Tryz.ntmps11
  go_wp2_with fail
  refine (valid_any _ _ _ h0).mono ?_
  rintro e w1 ⟨rfl, hb⟩
  rw [hv]
  have c0 := keepc hb (b := w.heap.size) (o := 0) (v := .int .i64 s) (by go_simp)
  have c1 := keepc hb (b := w.heap.size) (o := 1) (v := .int .i64 n) (by go_simp)
  have c2 := keepc hb (b := w.heap.size + 1) (o := 0) (v := .int .i64 0) (by go_simp)
  have c3 := keepc hb (b := w.heap.size + 1) (o := 1) (v := .int .i64 0) (by go_simp)
  have f0 := keepf hb (b := w.heap.size) (by simp; omega) (fun o => by go_simp)
  have f1 := keepf hb (b := w.heap.size + 1) (by simp) (fun o => by go_simp)
  have hz : w.heap.size + 1 < w1.heap.size := by have := hb.size; simp at this; omega
  go_wp2
  exact bodyPost_ret (v := .tuple #[.agg #[.int .i64 0, .int .i64 0], .bool false]) (by simp [results, Tryz.results11, go_sem, *]) rfl
    ⟨rfl, (((two w _ _).trans (hb.mono (by simp; omega))).setCell (by simp) _).setCell (by simp) _⟩

theorem next_last (w : World) :
    Calls Tryz.prog 11 #[.agg #[.int .i64 9223372036854775807, .int .i64 999999999]] w fun e w' => e = .returned (.tuple #[.agg #[.int .i64 0, .int .i64 0], .bool false]) ∧ Below w.heap.size w w' := by
  go_enter Tryz.func11, Tryz.ntmps11
  go_wp2_with fail
  refine (valid_any _ _ _ (by omega)).mono ?_
  rintro e w1 ⟨rfl, hb⟩
  rw [show vld 9223372036854775807 999999999 = true from rfl]
  have c0 := keepc hb (b := w.heap.size) (o := 0) (v := .int .i64 9223372036854775807) (by go_simp)
  have c1 := keepc hb (b := w.heap.size) (o := 1) (v := .int .i64 999999999) (by go_simp)
  have c2 := keepc hb (b := w.heap.size + 1) (o := 0) (v := .int .i64 0) (by go_simp)
  have c3 := keepc hb (b := w.heap.size + 1) (o := 1) (v := .int .i64 0) (by go_simp)
  have f0 := keepf hb (b := w.heap.size) (by simp; omega) (fun o => by go_simp)
  have f1 := keepf hb (b := w.heap.size + 1) (by simp) (fun o => by go_simp)
  have hz : w.heap.size + 1 < w1.heap.size := by have := hb.size; simp at this; omega
  go_wp2
  exact bodyPost_ret (v := .tuple #[.agg #[.int .i64 0, .int .i64 0], .bool false]) (by simp [results, Tryz.results11, go_sem, *]) rfl
    ⟨rfl, (((two w _ _).trans (hb.mono (by simp; omega))).setCell (by simp) _).setCell (by simp) _⟩

theorem next_up (s : Int) (w : World) (h1 : 0 ≤ s) (h0 : s < 9223372036854775807) :
    Calls Tryz.prog 11 #[.agg #[.int .i64 s, .int .i64 999999999]] w fun e w' => e = .returned (.tuple #[.agg #[.int .i64 (s + 1), .int .i64 0], .bool true]) ∧ Below w.heap.size w w' := by
  have hv : vld s 999999999 = true := by rw [vld_iff]; omega
  have hne : (s == 9223372036854775807) = false := by simp; omega
  go_enter Tryz.func11, Tryz.ntmps11
  go_wp2_with fail
  refine (valid_any _ _ _ (by omega)).mono ?_
  rintro e w1 ⟨rfl, hb⟩
  rw [hv]
  have c0 := keepc hb (b := w.heap.size) (o := 0) (v := .int .i64 s) (by go_simp)
  have c1 := keepc hb (b := w.heap.size) (o := 1) (v := .int .i64 999999999) (by go_simp)
  have c2 := keepc hb (b := w.heap.size + 1) (o := 0) (v := .int .i64 0) (by go_simp)
  have c3 := keepc hb (b := w.heap.size + 1) (o := 1) (v := .int .i64 0) (by go_simp)
  have f0 := keepf hb (b := w.heap.size) (by simp; omega) (fun o => by go_simp)
  have f1 := keepf hb (b := w.heap.size + 1) (by simp) (fun o => by go_simp)
  have hz : w.heap.size + 1 < w1.heap.size := by have := hb.size; simp at this; omega
  go_wp2
  exact bodyPost_ret (v := .tuple #[.agg #[.int .i64 (s + 1), .int .i64 0], .bool true]) (by simp [results, Tryz.results11, go_sem, *]) rfl
    ⟨rfl, (((two w _ _).trans (hb.mono (by simp; omega))).setCell (by simp) _).setCell (by simp) _⟩

theorem next_on (s n : Int) (w : World) (h1 : 0 ≤ s) (h0 : s ≤ 9223372036854775807) (h2 : 0 ≤ n) (h3 : n < 999999999) :
    Calls Tryz.prog 11 #[.agg #[.int .i64 s, .int .i64 n]] w fun e w' => e = .returned (.tuple #[.agg #[.int .i64 s, .int .i64 (n + 1)], .bool true]) ∧ Below w.heap.size w w' := by
  have hv : vld s n = true := by rw [vld_iff]; omega
  have hne : (n == 999999999) = false := by simp; omega
  go_enter Tryz.func11, Tryz.ntmps11
  go_wp2_with fail
  refine (valid_any _ _ _ (by omega)).mono ?_
  rintro e w1 ⟨rfl, hb⟩
  rw [hv]
  have c0 := keepc hb (b := w.heap.size) (o := 0) (v := .int .i64 s) (by go_simp)
  have c1 := keepc hb (b := w.heap.size) (o := 1) (v := .int .i64 n) (by go_simp)
  have c2 := keepc hb (b := w.heap.size + 1) (o := 0) (v := .int .i64 0) (by go_simp)
  have c3 := keepc hb (b := w.heap.size + 1) (o := 1) (v := .int .i64 0) (by go_simp)
  have f0 := keepf hb (b := w.heap.size) (by simp; omega) (fun o => by go_simp)
  have f1 := keepf hb (b := w.heap.size + 1) (by simp) (fun o => by go_simp)
  have hz : w.heap.size + 1 < w1.heap.size := by have := hb.size; simp at this; omega
  go_wp2
  exact bodyPost_ret (v := .tuple #[.agg #[.int .i64 s, .int .i64 (n + 1)], .bool true]) (by simp [results, Tryz.results11, go_sem, *]) rfl
    ⟨rfl, ((((two w _ _).trans (hb.mono (by simp; omega))).setCell (by simp) _).setCell (by simp) _).setCell (by simp) _⟩

end Go.Proofs.YtdpcmokemjfelaaGreatDoor.St
