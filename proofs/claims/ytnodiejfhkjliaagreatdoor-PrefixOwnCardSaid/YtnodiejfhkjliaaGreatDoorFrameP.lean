/- An argument that is an address, a prefix: opened. -/
import Derived.Test.YtnodiejfhkjliaaGreatDoorFrame
namespace Go.Proofs.YtnodiejfhkjliaaGreatDoor.Fr
open Go.ChangeShapes Go.WideShapes Go.ChangeAt Go.RowKit Go.Joins Go.Proofs.YtnodiejfhkjliaaGreatDoor.En Go.Proofs.YtnodiejfhkjliaaGreatDoor.Wd

variable {H : Type} {enc : TypeId × Value → H} {W : World} {base b0 : Nat} {sp : Nat → Bool} {held : Bool} {v : Value} {d : DataW H} {p : List MemPlace} {r : Reach}

theorem u64_nat {y : DataW H × List MemPlace} {n : Nat} {c : Value} (h : DataW.trod enc Tryz.prog W base sp held n 46 [c] = some y) : ∃ x : Nat, c = .int .u64 (x : Int) ∧ x < 18446744073709551616 := by
  obtain ⟨z, e, -, w⟩ := DataW.trod_int Tryz.underlying46 h
  simp only [List.cons.injEq, and_true] at e
  subst e
  have hb := bounds_u64 w
  exact ⟨z.toNat, by congr 1; omega, by omega⟩
theorem i64_int {y : DataW H × List MemPlace} {n : Nat} {c : Value} (h : DataW.trod enc Tryz.prog W base sp held n 3 [c] = some y) : ∃ x : Int, c = .int .i64 x ∧ -9223372036854775808 ≤ x ∧ x ≤ 9223372036854775807 := by
  obtain ⟨z, e, -, w⟩ := DataW.trod_int Tryz.underlying3 h
  simp only [List.cons.injEq, and_true] at e
  subst e
  exact ⟨z, rfl, bounds_i64 w⟩
theorem cA : Tryz.prog.cellsOf 48 = 3 := by kernel_rfl
theorem cP : Tryz.prog.cellsOf 50 = 4 := by kernel_rfl
theorem cI : Tryz.prog.cellsOf 3 = 1 := by kernel_rfl
theorem cU : Tryz.prog.cellsOf 46 = 1 := by kernel_rfl
set_option maxRecDepth 100000 in
theorem open_addr (hv : Value.okWide Tryz.prog W r b0 48 v) (h : DataW.Trod enc Tryz.prog W base sp held 48 v d p) :
    ∃ (f : Int) (hi lo : Nat), v = .agg #[.int .i64 f, .int .u64 hi, .int .u64 lo] ∧ hi < 18446744073709551616 ∧ lo < 18446744073709551616 := by
  obtain ⟨c0, c1, c2, y0, y1, y2, n, rfl, -, -, h0, h1, h2⟩ := open_agg3 Tryz.underlying48 (by kernel_rfl) (by kernel_rfl) hv h
  obtain ⟨f, rfl, -⟩ := i64_int h0
  obtain ⟨hi, rfl, b1⟩ := u64_nat h1
  obtain ⟨lo, rfl, b2⟩ := u64_nat h2
  exact ⟨f, hi, lo, rfl, b1, b2⟩
set_option maxRecDepth 100000 in
theorem open_prefix (hv : Value.okWide Tryz.prog W r b0 50 v) (h : DataW.Trod enc Tryz.prog W base sp held 50 v d p) :
    ∃ (f : Int) (hi lo : Nat) (b : Int), v = .agg #[.int .i64 f, .int .u64 hi, .int .u64 lo, .int .i64 b] ∧ hi < 18446744073709551616 ∧ lo < 18446744073709551616 ∧ -9223372036854775808 ≤ b ∧ b ≤ 9223372036854775807 := by
  obtain ⟨cs, rfl, hsz⟩ := okWide_struct Tryz.underlying50 hv
  obtain ⟨c0, c1, c2, c3, rfl⟩ := array4 (hsz.trans cP)
  obtain ⟨fuel, hf⟩ := h
  obtain ⟨y0, y1, n, -, -, h0, h1⟩ := trod_struct2 Tryz.underlying50 hf
  simp only [Value.cells, cA, cI, List.drop_zero, List.take_succ_cons, List.take_zero, List.drop_succ_cons] at h0 h1
  obtain ⟨z0, z1, z2, m, -, -, k0, k1, k2⟩ := Go.Deep.trod_struct3 Tryz.underlying48 h0
  simp only [cI, cU, List.drop_zero, List.take_succ_cons, List.take_zero, List.drop_succ_cons] at k0 k1 k2
  obtain ⟨f, rfl, -⟩ := i64_int k0
  obtain ⟨hi, rfl, b1⟩ := u64_nat k1
  obtain ⟨lo, rfl, b2⟩ := u64_nat k2
  obtain ⟨b, rfl, b3⟩ := i64_int h1
  exact ⟨f, hi, lo, b, rfl, b1, b2, b3⟩

end Go.Proofs.YtnodiejfhkjliaaGreatDoor.Fr
