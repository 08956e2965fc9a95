/- Closed facts of a card. -/
import Derived.Test.YtpgegfdiceamaaaGreatDoorKd
import Derived.Test.YtpgegfdiceamaaaGreatDoorJk5
import Derived.Test.YtpgegfdiceamaaaGreatDoorCards
import Derived.SevenTiedAt
namespace Go.Proofs.YtpgegfdiceamaaaGreatDoor
open Go
theorem k_wft : Rows.consoleBackRow.wfByText (OpenSpec.ofChange Rows.consoleBackSpec) = true := by kernel_rfl
theorem k_goes : false = Rows.consoleBackRow.goesBy Tryz.prog := by
  unfold OpenClaim.goesBy Program.goesAt Program.goesFrom
  rw [k_named, Option.any_some, goes_of no_goes]
  rfl
end Go.Proofs.YtpgegfdiceamaaaGreatDoor
