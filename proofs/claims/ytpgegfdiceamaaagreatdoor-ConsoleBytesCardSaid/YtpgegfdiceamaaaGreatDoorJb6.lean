/- Closed facts of a card. -/
import Derived.Test.YtpgegfdiceamaaaGreatDoorKd
import Derived.Test.YtpgegfdiceamaaaGreatDoorJb5
import Derived.Test.YtpgegfdiceamaaaGreatDoorCards
import Derived.SevenTiedAt
namespace Go.Proofs.YtpgegfdiceamaaaGreatDoor
open Go
theorem b_wft : Rows.consoleBytesRow.wfByText (OpenSpec.ofChange Rows.consoleBytesSpec) = true := by kernel_rfl
theorem b_goes : false = Rows.consoleBytesRow.goesBy Tryz.prog := by
  unfold OpenClaim.goesBy Program.goesAt Program.goesFrom
  rw [b_named, Option.any_some, goes_of no_goes]
  rfl
end Go.Proofs.YtpgegfdiceamaaaGreatDoor
