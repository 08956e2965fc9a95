/- Closed facts of a card. -/
import Derived.Test.YtpgegfdiceamaaaGreatDoorKd
import Derived.Test.YtpgegfdiceamaaaGreatDoorJr5
import Derived.Test.YtpgegfdiceamaaaGreatDoorCards
import Derived.SevenTiedAt
namespace Go.Proofs.YtpgegfdiceamaaaGreatDoor
open Go
theorem r_wft : Rows.consoleReadsRow.wfByText (OpenSpec.ofChange Rows.consoleReadsSpec) = true := by kernel_rfl
theorem r_goes : false = Rows.consoleReadsRow.goesBy Tryz.prog := by
  unfold OpenClaim.goesBy Program.goesAt Program.goesFrom
  rw [r_named, Option.any_some, goes_of no_goes]
  rfl
end Go.Proofs.YtpgegfdiceamaaaGreatDoor
