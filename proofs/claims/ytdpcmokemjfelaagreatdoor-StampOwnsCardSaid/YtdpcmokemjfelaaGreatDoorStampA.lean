/- Contracts of the small functions of stamps: Valid, Less, Next, SameStamp, of the program and of the reference. -/
import Derived.Test.YtdpcmokemjfelaaGreatDoorProg
import Derived.Test.YtdpcmokemjfelaaGreatDoorWords
import Derived.Test.YtdpcmokemjfelaaGreatDoorStampPlain
import Derived.WalkKit
import Derived.OwnWalk
import Derived.WalkLawsBesides
import Derived.WalkSpells
import Derived.Outline
import Derived.BigCall
namespace Go.Proofs.YtdpcmokemjfelaaGreatDoor.St
open Go.RowKit Go.Proofs.YtdpcmokemjfelaaGreatDoor.Wd Go.Proofs.YtdpcmokemjfelaaGreatDoor.Pl

theorem valid_any (s n : Int) (w : World) (h0 : s ≤ 9223372036854775807) :
    Calls Tryz.prog 18 #[.agg #[.int .i64 s, .int .i64 n]] w fun e w' => e = .returned (.bool (vld s n)) ∧ Below w.heap.size w w' := by
  go_enter Tryz.func18, Tryz.ntmps18
  go_wp2
  all_goals go_ret
  all_goals exact ⟨ret_bool (by rw [Bool.eq_iff_iff, vld_iff]; simp <;> omega), (Below.refl _ _).alloc (Nat.le_refl _) _⟩

theorem rvalid_any (s n : Int) (w : World) :
    Calls Tryz.prog 19 #[.agg #[.int .i64 s, .int .i64 n]] w fun e w' => e = .returned (.bool (vld s n)) ∧ Below w.heap.size w w' := by
  go_enter Tryz.func19, Tryz.ntmps19
  go_wp2
  all_goals go_ret
  all_goals exact ⟨ret_bool (by rw [Bool.eq_iff_iff, vld_iff]; simp <;> omega), (Below.refl _ _).alloc (Nat.le_refl _) _⟩

def lss (s n t m : Int) : Bool := decide (s < t ∨ (s = t ∧ n < m))
theorem two (w : World) (o o' : Obj) : Below w.heap.size w ((w.alloc o).alloc o') := ((Below.refl _ _).alloc (Nat.le_refl _) o).alloc (by simp) o'

theorem less_any (s n t m : Int) (w : World) :
    Calls Tryz.prog 16 #[.agg #[.int .i64 s, .int .i64 n], .agg #[.int .i64 t, .int .i64 m]] w fun e w' => e = .returned (.bool (lss s n t m)) ∧ Below w.heap.size w w' := by
  go_enter Tryz.func16, Tryz.ntmps16
  go_wp2
  all_goals go_ret
  all_goals exact ⟨ret_bool (by rw [Bool.eq_iff_iff]; simp [lss] <;> omega), two _ _ _⟩

def sam (s n t m : Int) : Bool := decide (s = t ∧ n = m)
theorem same_any (s n t m : Int) (w : World) :
    Calls Tryz.prog 15 #[.agg #[.int .i64 s, .int .i64 n], .agg #[.int .i64 t, .int .i64 m]] w fun e w' => e = .returned (.bool (sam s n t m)) ∧ Below w.heap.size w w' := by
  go_enter Tryz.func15, Tryz.ntmps15
  go_wp2
  all_goals go_ret
  all_goals exact ⟨ret_bool (by rw [Bool.eq_iff_iff]; simp [sam] <;> omega), two _ _ _⟩

end Go.Proofs.YtdpcmokemjfelaaGreatDoor.St
