/- A region that draws its order, reads, and calls functions that leave alone what lay there: one walk in the text's order. -/
import Derived.Test.YtpkmekdpmkfcdaaGreatDoorWords
import Derived.Deep.QuietTactic
import Derived.BigQuiet
namespace Go.Proofs.YtpkmekdpmkfcdaaGreatDoor.Wd
open Go.RowKit
/-- a world in which all that lay in w0 lies as it lay -/
def After (w0 : World) : Type := { W : World // Below w0.heap.size w0 W }
def After.w {w0 : World} (x : After w0) : World := x.1
theorem After.b {w0 : World} (x : After w0) : Below w0.heap.size w0 x.w := x.2
instance (w0 : World) : Inhabited (After w0) := ⟨⟨w0,Below.refl _ _⟩⟩
theorem wp_region_after {P : Program} {id : Nat} {Q : Exit → Act → World → Prop} {a : Act} {w : World} {l : List Oper} (hm : P.follows .mixedOrders = true) (hB : Region.lexB .any l.toArray = true)
  (h : wpQuiet P l.toArray (fun w' => ∃ x : After w,w' = x.w) (fun a' => ∀ w',(∃ x : After w,w' = x.w) → Q .normal a' w') l a) : (Code.region id l.toArray true).wp P Q a w :=
 wp_region_quiet (C := fun w' => ∃ x : After w,w' = x.w) hm hB ⟨⟨_,(Below.refl _ w).drew⟩,rfl⟩ (by simpa using h)
theorem after_of {P : Program} {f : FuncId} {args : Array Value} {w0 : World} {x : After w0} {v : Value}
  (h : Calls P f args x.w fun e w' => e = .returned v ∧ Below x.w.heap.size x.w w') : Calls P f args x.w fun e w'' => e = .returned v ∧ ∃ y : After w0,w'' = y.w :=
 h.mono fun _ _ ⟨he,hb⟩ => ⟨he,⟨_,x.b.trans (hb.mono x.b.size)⟩,rfl⟩
theorem after_same {P : Program} {f : FuncId} {args : Array Value} {w0 : World} {x : After w0} {v : Value}
  (h : Calls P f args x.w fun e w' => e = .returned v ∧ w' = x.w) : Calls P f args x.w fun e w'' => e = .returned v ∧ ∃ y : After w0,w'' = y.w :=
 h.mono fun _ _ ⟨he,hw⟩ => ⟨he,x,hw⟩
theorem after_cell {w0 : World} {b o : Nat} {v : Value} (h : w0.cell? ⟨b,o,none⟩ = some v) (x : After w0) : x.w.cell? ⟨b,o,none⟩ = some v := keepc x.b h
end Go.Proofs.YtpkmekdpmkfcdaaGreatDoor.Wd
