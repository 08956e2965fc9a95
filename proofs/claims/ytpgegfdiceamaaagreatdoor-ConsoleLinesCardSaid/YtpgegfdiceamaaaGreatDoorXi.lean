/- The console's laws: part Xi. -/
import Derived.Test.YtpgegfdiceamaaaGreatDoorXf
namespace Go.Proofs.YtpgegfdiceamaaaGreatDoor
open Go.ChangeShapes Go.WideShapes Go.ChangeAt Go.RowKit

theorem wit_shaped (os : Os) (args : Array Value) : ((World.laidAll Tryz.prog os laidL).forCall (fun _ _ => 0) ⟨#[], args, []⟩).Shaped Tryz.prog :=
  World.shaped_of_ZipB (by kernel_rfl) (by kernel_rfl)
end Go.Proofs.YtpgegfdiceamaaaGreatDoor
