/- Contracts: the order of two numbers, by the library and by the reference; the first that is not nought. -/
import Derived.Test.YtpkmekdpmkfcdaaGreatDoorAfter
import Derived.Test.YtpkmekdpmkfcdaaGreatDoorME
namespace Go.Proofs.YtpkmekdpmkfcdaaGreatDoor.Pf
open Go.RowKit Go.Proofs.YtpkmekdpmkfcdaaGreatDoor.Wd

/-- -1, 0, 1 -/
def cmI (a b : Int) : Int := if a < b then -1 else if b < a then 1 else 0
theorem ret_i {a b : Int} (h : a = b) : Ending.returned (.int .i64 a) = .returned (.int .i64 b) := by rw [h]
/-- the first that is not nought -/
def fnz : List Int → Int
  | [] => 0
  | x :: r => if x = 0 then fnz r else x
theorem fnz_drop {xs : List Int} {k : Nat} (hk : k < xs.length) : fnz (xs.drop k) = if xs[k] = 0 then fnz (xs.drop (k + 1)) else xs[k] := by
  rw [List.drop_eq_getElem_cons hk]; rfl

end Go.Proofs.YtpkmekdpmkfcdaaGreatDoor.Pf
