/- Contract: an address out of its text, by the program. -/
import Derived.Test.YtnodiejfhkjliaaDoorParseB
import Derived.Test.YtnodiejfhkjliaaDoorParseC
namespace Go.Proofs.YtnodiejfhkjliaaDoor.Pf
open Go.RowKit Go.Shelf Go.Proofs.YtnodiejfhkjliaaDoor.Wd Go.Proofs.YtnodiejfhkjliaaDoor.Px Go.Proofs.YtnodiejfhkjliaaDoor.By Go.Proofs.YtnodiejfhkjliaaDoor.En Go.Proofs.YtnodiejfhkjliaaDoor.Pl

theorem parseaddr_any (t : List UInt8) (ht : t.length ≤ 140737488355328) (w : World) (hE : Env w) :
    Calls Tryd.prog 29 #[.string ⟨t.toArray⟩] w fun e w' => e = .returned (ofA (prsA t)) ∧ Below w.heap.size w w' := by
  refine (callsIn_wide (n := 9)).1 ?_
  rcases index_spec 58 t with ⟨h, -⟩ | ⟨q, h, -⟩
  · exact parseaddr_4 t ht w hE (Lib.hid h)
  · exact parseaddr_6 t ht w hE q (Lib.hid h)

end Go.Proofs.YtnodiejfhkjliaaDoor.Pf
