/- Closed facts of the row of culvertlaw22.ScriptOwn. -/
import Derived.Test.YtpkmekdpmkfcdaaGreatDoorCards
import Derived.Test.YtpkmekdpmkfcdaaGreatDoorTie
import Derived.SevenTiedAt
import Derived.JoinedOf
namespace Go.Proofs.YtpkmekdpmkfcdaaGreatDoor.scriptOwnP
theorem facts : joinedFacts Tryz.prog 4 Tryz.f4 Rows.scriptOwnSpec Rows.scriptOwnRow = true := by kernel_rfl
theorem inst : Tryz.f4.isInstance Tryz.prog Rows.scriptOwnRow.origin Rows.scriptOwnRow.targs := of_decide_eq_true (by kernel_rfl)
theorem wrapped : Tryz.f4.isWrapper Tryz.prog Rows.scriptOwnRow.wrapper Rows.scriptOwnRow.mainSum := by unfold Func.isWrapper;first | (rw [if_pos (by decide +kernel)];kernel_rfl) | (rw [if_neg (by decide +kernel)];exact ⟨rfl,rfl⟩)
end Go.Proofs.YtpkmekdpmkfcdaaGreatDoor.scriptOwnP
