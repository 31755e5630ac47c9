
/- Contracts: the order of two numbers, by the library and by the reference; the first that is not nought. -/
import Derived.Test.YtpkmekdpmkfcdaaGreatDoorAfter
import Derived.Test.YtpkmekdpmkfcdaaGreatDoorME
namespace Go.Proofs.YtpkmekdpmkfcdaaGreatDoor.Pf
open Go.RowKit Go.Proofs.YtpkmekdpmkfcdaaGreatDoor.Wd
theorem ret_i {a b : Int} (h : a = b) : Ending.returned (.int .i64 a) = .returned (.int .i64 b) := by rw [h]
end Go.Proofs.YtpkmekdpmkfcdaaGreatDoor.Pf
