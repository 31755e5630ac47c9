/- Contracts of the small functions of stamps: Valid, Less, Next, SameStamp, of the program and of the reference. -/
import Derived.Test.YtpjgebbmbiohbaaDoorProg
import Derived.Test.YtpjgebbmbiohbaaDoorWords
import Derived.Test.YtpjgebbmbiohbaaDoorStampPlain
import Derived.WalkKit
import Derived.OwnWalk
import Derived.WalkLawsBesides
import Derived.WalkSpells
import Derived.Outline
import Derived.BigCall
namespace Go.Proofs.YtpjgebbmbiohbaaDoor.St
open Go.RowKit Go.Proofs.YtpjgebbmbiohbaaDoor.Wd Go.Proofs.YtpjgebbmbiohbaaDoor.Pl

theorem valid_any (s n : Int) (w : World) (h0 : s ≤ 9223372036854775807) :
    Calls Tryd.prog 14 #[.agg #[.int .i64 s, .int .i64 n]] w fun e w' => e = .returned (.bool (vld s n)) ∧ Below w.heap.size w w' := by
  go_enter Tryd.func14, Tryd.ntmps14
  go_wp2
  all_goals go_ret
  all_goals exact ⟨ret_bool (by rw [Bool.eq_iff_iff, vld_iff]; simp <;> omega), (Below.refl _ _).alloc (Nat.le_refl _) _⟩

theorem rvalid_any (s n : Int) (w : World) :
    Calls Tryd.prog 15 #[.agg #[.int .i64 s, .int .i64 n]] w fun e w' => e = .returned (.bool (vld s n)) ∧ Below w.heap.size w w' := by
  go_enter Tryd.func15, Tryd.ntmps15
  go_wp2
  all_goals go_ret
  all_goals exact ⟨ret_bool (by rw [Bool.eq_iff_iff, vld_iff]; simp <;> omega), (Below.refl _ _).alloc (Nat.le_refl _) _⟩

def lss (s n t m : Int) : Bool := decide (s < t ∨ (s = t ∧ n < m))
theorem two (w : World) (o o' : Obj) : Below w.heap.size w ((w.alloc o).alloc o') := ((Below.refl _ _).alloc (Nat.le_refl _) o).alloc (by simp) o'

theorem less_any (s n t m : Int) (w : World) :
    Calls Tryd.prog 16 #[.agg #[.int .i64 s, .int .i64 n], .agg #[.int .i64 t, .int .i64 m]] w fun e w' => e = .returned (.bool (lss s n t m)) ∧ Below w.heap.size w w' := by
  go_enter Tryd.func16, Tryd.ntmps16
  go_wp2
  all_goals go_ret
  all_goals exact ⟨ret_bool (by rw [Bool.eq_iff_iff]; simp [lss] <;> omega), two _ _ _⟩

theorem rless_any (s n t m : Int) (w : World) :
    Calls Tryd.prog 17 #[.agg #[.int .i64 s, .int .i64 n], .agg #[.int .i64 t, .int .i64 m]] w fun e w' => e = .returned (.bool (lss s n t m)) ∧ Below w.heap.size w w' := by
  go_enter Tryd.func17, Tryd.ntmps17
  go_wp2
  all_goals go_ret
  all_goals exact ⟨ret_bool (by rw [Bool.eq_iff_iff]; simp [lss] <;> omega), two _ _ _⟩

def sam (s n t m : Int) : Bool := decide (s = t ∧ n = m)
theorem same_any (s n t m : Int) (w : World) :
    Calls Tryd.prog 20 #[.agg #[.int .i64 s, .int .i64 n], .agg #[.int .i64 t, .int .i64 m]] w fun e w' => e = .returned (.bool (sam s n t m)) ∧ Below w.heap.size w w' := by
  go_enter Tryd.func20, Tryd.ntmps20
  go_wp2
  all_goals go_ret
  all_goals exact ⟨ret_bool (by rw [Bool.eq_iff_iff]; simp [sam] <;> omega), two _ _ _⟩

end Go.Proofs.YtpjgebbmbiohbaaDoor.St
