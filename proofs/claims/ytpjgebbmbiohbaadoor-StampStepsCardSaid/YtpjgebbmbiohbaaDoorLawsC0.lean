/- The walk of StampSteps. -/
import Derived.Test.YtpjgebbmbiohbaaDoorStampK
import Derived.Deep.DeepCutAuto
namespace Go.Proofs.YtpjgebbmbiohbaaDoor.St
open Go.RowKit Go.Proofs.YtpjgebbmbiohbaaDoor.Wd Go.Proofs.YtpjgebbmbiohbaaDoor.Pl Go.Proofs.YtpjgebbmbiohbaaDoor.Px Go.Proofs.YtpjgebbmbiohbaaDoor.En Go.Proofs.YtpjgebbmbiohbaaDoor.By

theorem xy {X Y : Bool} (h : Is (X && Y) false) : X = false ∨ X = true ∧ Y = false := by
  cases X
  · exact .inl rfl
  · exact .inr ⟨rfl, h⟩
theorem zuv {Z U V : Bool} (h : Is (Z && (U != V)) false) : Z = false ∨ Z = true ∧ U = V := by
  cases Z
  · exact .inl rfl
  · cases U <;> cases V <;> first | exact .inr ⟨rfl, rfl⟩ | exact absurd h (by unfold Is; decide)

end Go.Proofs.YtpjgebbmbiohbaaDoor.St
