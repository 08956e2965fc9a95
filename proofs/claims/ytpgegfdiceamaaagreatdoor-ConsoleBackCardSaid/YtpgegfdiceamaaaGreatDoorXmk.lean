/- The row of ConsoleBack. -/
import Derived.Test.YtpgegfdiceamaaaGreatDoorXo
import Derived.Test.YtpgegfdiceamaaaGreatDoorJx
import Derived.Test.YtpgegfdiceamaaaGreatDoorJc
import Derived.Test.YtpgegfdiceamaaaGreatDoorJd
import Derived.Test.YtpgegfdiceamaaaGreatDoorKzk
import Derived.Test.YtpgegfdiceamaaaGreatDoorJk4
import Derived.Test.YtpgegfdiceamaaaGreatDoorJk5
namespace Go.Proofs.YtpgegfdiceamaaaGreatDoor
open Go
set_option maxRecDepth 100000 in
theorem k_joined : joinedFacts Tryz.prog 5 Tryz.f5 Rows.consoleBackSpec Rows.consoleBackRow = true :=
  joined_of (P := Tryz.prog) (f := 5) (fn := Tryz.f5) (s := Rows.consoleBackSpec) (c := Rows.consoleBackRow) k_j0 laid_out maps_rowed k_j3 k_j4 k_j5 k_j6 k_j7 k_j8 k_j9 k_j10 k_j11 k_j12 k_j13 k_j14 k_j15 k_j16 k_j17 k_j18 k_j19 k_j20 k_j21 k_j22 k_j23 k_j24 k_j25 k_j26 k_j27 k_j28 k_j29 k_j30 k_j31

set_option maxRecDepth 100000 in
theorem back_holds : Rows.ConsoleBackSaid :=
  OpenClaim.holds_of_wide 5 Tryz.f5 rfl rfl rfl rfl rfl rfl rfl ⟨rfl, rfl, rfl, rfl, rfl⟩ rfl rfl rfl rfl rfl k_named Tryz.func5 k_joined
    k_inst k_wrap (fun os started H enc _ => back_lifted os started H enc)
end Go.Proofs.YtpgegfdiceamaaaGreatDoor
