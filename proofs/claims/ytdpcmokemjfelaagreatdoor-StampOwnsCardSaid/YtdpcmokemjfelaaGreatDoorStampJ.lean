/- Contract: a stamp out of its text, by the reference. -/
import Derived.Test.YtdpcmokemjfelaaGreatDoorStampI
namespace Go.Proofs.YtdpcmokemjfelaaGreatDoor.St
open Go.RowKit Go.Proofs.YtdpcmokemjfelaaGreatDoor.Wd Go.Proofs.YtdpcmokemjfelaaGreatDoor.Pl Go.Proofs.YtdpcmokemjfelaaGreatDoor.En Go.Proofs.YtdpcmokemjfelaaGreatDoor.By

theorem one (w : World) (o : Obj) : Below w.heap.size w (w.alloc o) := (Below.refl _ w).alloc (Nat.le_refl _) o

end Go.Proofs.YtdpcmokemjfelaaGreatDoor.St
