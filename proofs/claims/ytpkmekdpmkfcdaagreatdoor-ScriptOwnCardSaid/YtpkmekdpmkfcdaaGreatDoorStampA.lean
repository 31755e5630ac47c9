/- Contracts of the small functions of stamps: Valid, Less, Next, SameStamp, of the program and of the reference. -/
import Derived.Test.YtpkmekdpmkfcdaaGreatDoorProg
import Derived.Test.YtpkmekdpmkfcdaaGreatDoorWords
import Derived.Test.YtpkmekdpmkfcdaaGreatDoorStampPlain
import Derived.WalkKit
import Derived.OwnWalk
import Derived.WalkLawsBesides
import Derived.WalkSpells
import Derived.Outline
import Derived.BigCall
namespace Go.Proofs.YtpkmekdpmkfcdaaGreatDoor.St
open Go.RowKit Go.Proofs.YtpkmekdpmkfcdaaGreatDoor.Wd Go.Proofs.YtpkmekdpmkfcdaaGreatDoor.Pl
theorem valid_any (s n : Int) (w : World) (h0 : s ≤ 9223372036854775807) :
  Calls Tryz.prog 217 #[.agg #[.int .i64 s,.int .i64 n]] w fun e w' => e = .returned (.bool (vld s n)) ∧ Below w.heap.size w w' := by
 go_enter Tryz.func217,Tryz.ntmps217
 go_wp2
 all_goals go_ret
 all_goals exact ⟨ret_bool (by rw [Bool.eq_iff_iff,vld_iff];simp <;> omega),(Below.refl _ _).alloc (Nat.le_refl _) _⟩
theorem rvalid_any (s n : Int) (w : World) :
  Calls Tryz.prog 271 #[.agg #[.int .i64 s,.int .i64 n]] w fun e w' => e = .returned (.bool (vld s n)) ∧ Below w.heap.size w w' := by
 go_enter Tryz.func271,Tryz.ntmps271
 go_wp2
 all_goals go_ret
 all_goals exact ⟨ret_bool (by rw [Bool.eq_iff_iff,vld_iff];simp <;> omega),(Below.refl _ _).alloc (Nat.le_refl _) _⟩
def lss (s n t m : Int) : Bool := decide (s < t ∨ (s = t ∧ n < m))
theorem two (w : World) (o o' : Obj) : Below w.heap.size w ((w.alloc o).alloc o') := ((Below.refl _ _).alloc (Nat.le_refl _) o).alloc (by simp) o'
def sam (s n t m : Int) : Bool := decide (s = t ∧ n = m)
theorem same_any (s n t m : Int) (w : World) :
  Calls Tryz.prog 168 #[.agg #[.int .i64 s,.int .i64 n],.agg #[.int .i64 t,.int .i64 m]] w fun e w' => e = .returned (.bool (sam s n t m)) ∧ Below w.heap.size w w' := by
 go_enter Tryz.func168,Tryz.ntmps168
 go_wp2
 all_goals go_ret
 all_goals exact ⟨ret_bool (by rw [Bool.eq_iff_iff];simp [sam] <;> omega),two _ _ _⟩
end Go.Proofs.YtpkmekdpmkfcdaaGreatDoor.St
