/- The row of ConsoleLines. -/
import Derived.Test.YtpgegfdiceamaaaGreatDoorXq
import Derived.Test.YtpgegfdiceamaaaGreatDoorJx
import Derived.Test.YtpgegfdiceamaaaGreatDoorJc
import Derived.Test.YtpgegfdiceamaaaGreatDoorJd
import Derived.Test.YtpgegfdiceamaaaGreatDoorKzl
import Derived.Test.YtpgegfdiceamaaaGreatDoorJl4
import Derived.Test.YtpgegfdiceamaaaGreatDoorJl5
namespace Go.Proofs.YtpgegfdiceamaaaGreatDoor
open Go
set_option maxRecDepth 100000 in
theorem l_joined : joinedFacts Tryz.prog 4 Tryz.f4 Rows.consoleLinesSpec Rows.consoleLinesRow = true :=
  joined_of (P := Tryz.prog) (f := 4) (fn := Tryz.f4) (s := Rows.consoleLinesSpec) (c := Rows.consoleLinesRow) l_j0 laid_out maps_rowed l_j3 l_j4 l_j5 l_j6 l_j7 l_j8 l_j9 l_j10 l_j11 l_j12 l_j13 l_j14 l_j15 l_j16 l_j17 l_j18 l_j19 l_j20 l_j21 l_j22 l_j23 l_j24 l_j25 l_j26 l_j27 l_j28 l_j29 l_j30 l_j31

set_option maxRecDepth 100000 in
theorem lines_holds : Rows.ConsoleLinesSaid :=
  OpenClaim.holds_of_wide 4 Tryz.f4 rfl rfl rfl rfl rfl rfl rfl ⟨rfl, rfl, rfl, rfl, rfl⟩ rfl rfl rfl rfl rfl l_named Tryz.func4 l_joined
    l_inst l_wrap (fun os started H enc _ => lines_lifted os started H enc)
end Go.Proofs.YtpgegfdiceamaaaGreatDoor
