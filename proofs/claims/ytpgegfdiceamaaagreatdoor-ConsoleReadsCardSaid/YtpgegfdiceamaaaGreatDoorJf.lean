/- A closed fact of every card. -/
import Derived.Test.YtpgegfdiceamaaaGreatDoorCards
import Derived.SevenTiedAt
namespace Go.Proofs.YtpgegfdiceamaaaGreatDoor
open Go
theorem looks_on : true = Tryz.prog.looks [] := by kernel_rfl
end Go.Proofs.YtpgegfdiceamaaaGreatDoor
