/- Closed facts of a card. -/
import Derived.Test.YtpgegfdiceamaaaGreatDoorKd
import Derived.Test.YtpgegfdiceamaaaGreatDoorJl5
import Derived.Test.YtpgegfdiceamaaaGreatDoorCards
import Derived.SevenTiedAt
namespace Go.Proofs.YtpgegfdiceamaaaGreatDoor
open Go
theorem l_wft : Rows.consoleLinesRow.wfByText (OpenSpec.ofChange Rows.consoleLinesSpec) = true := by kernel_rfl
theorem l_goes : false = Rows.consoleLinesRow.goesBy Tryz.prog := by
  unfold OpenClaim.goesBy Program.goesAt Program.goesFrom
  rw [l_named, Option.any_some, goes_of no_goes]
  rfl
end Go.Proofs.YtpgegfdiceamaaaGreatDoor
