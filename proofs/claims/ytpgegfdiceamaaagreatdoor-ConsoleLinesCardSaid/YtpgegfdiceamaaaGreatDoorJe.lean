/- Closed facts of every card. -/
import Derived.Test.YtpgegfdiceamaaaGreatDoorCards
import Derived.SevenTiedAt
namespace Go.Proofs.YtpgegfdiceamaaaGreatDoor
open Go
theorem main_is : Tryz.prog.mainIs = some (true, ("6f8dc262c007ab9449760b7b96ab71612de9c99420d6719daf872c8b8ac488ee" : String).toList) := by kernel_rfl
theorem wants_none : ([9, 26].all fun u => !Tryz.prog.wantsStandIn u) = true := by kernel_rfl
end Go.Proofs.YtpgegfdiceamaaaGreatDoor
