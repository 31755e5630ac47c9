
/- Contract: a prefix's bytes, by the reference. -/
import Derived.Test.YtpkmekdpmkfcdaaGreatDoorRPutA
namespace Go.Proofs.YtpkmekdpmkfcdaaGreatDoor.Pf
open Go.RowKit Go.Proofs.YtpkmekdpmkfcdaaGreatDoor.Wd Go.Proofs.YtpkmekdpmkfcdaaGreatDoor.Px Go.Proofs.YtpkmekdpmkfcdaaGreatDoor.By
theorem rvalid_as {f : Int} {hi lo : Nat} {b : Int} {X : Bool} (h : Hid (vP f hi lo b = X)) (w : World) (hh : hi < 18446744073709551616) (hl : lo < 18446744073709551616) :
    Calls Tryz.prog 161 #[.agg #[.int .i64 f, .int .u64 hi, .int .u64 lo, .int .i64 b]] w fun e w' => e = .returned (.bool X) ∧ Below w.heap.size w w' := by
  have := rvalid_any f hi lo b w hh hl
  rwa [h.out] at this
end Go.Proofs.YtpkmekdpmkfcdaaGreatDoor.Pf
