/- Closed facts, out of what the check has paid. -/
import Derived.Test.YtpgegfdiceamaaaGreatDoorRows
import Derived.ClosedOfChecked
namespace Go.Proofs.YtpgegfdiceamaaaGreatDoor
open Go Go.ClosedOfChecked
theorem all_spec : AllSpec Tryz.prog := allSpec_of Tryz.checked.wellFormed (by kernel_rfl)
theorem laid_out : laidOutB Tryz.prog = true := laidOutB_of all_spec (by kernel_rfl)
theorem maps_rowed : mapsRowed Tryz.prog = true := mapsRowed_of all_spec
end Go.Proofs.YtpgegfdiceamaaaGreatDoor
