/- The row of ConsoleReads. -/
import Derived.Test.YtpgegfdiceamaaaGreatDoorRm
import Derived.Test.YtpgegfdiceamaaaGreatDoorJx
import Derived.Test.YtpgegfdiceamaaaGreatDoorJc
import Derived.Test.YtpgegfdiceamaaaGreatDoorJd
import Derived.Test.YtpgegfdiceamaaaGreatDoorKzr
import Derived.Test.YtpgegfdiceamaaaGreatDoorJr4
import Derived.Test.YtpgegfdiceamaaaGreatDoorJr5
namespace Go.Proofs.YtpgegfdiceamaaaGreatDoor
open Go
set_option maxRecDepth 100000 in
theorem r_joined : joinedFacts Tryz.prog 3 Tryz.f3 Rows.consoleReadsSpec Rows.consoleReadsRow = true :=
  joined_of (P := Tryz.prog) (f := 3) (fn := Tryz.f3) (s := Rows.consoleReadsSpec) (c := Rows.consoleReadsRow) r_j0 laid_out maps_rowed r_j3 r_j4 r_j5 r_j6 r_j7 r_j8 r_j9 r_j10 r_j11 r_j12 r_j13 r_j14 r_j15 r_j16 r_j17 r_j18 r_j19 r_j20 r_j21 r_j22 r_j23 r_j24 r_j25 r_j26 r_j27 r_j28 r_j29 r_j30 r_j31

set_option maxRecDepth 100000 in
theorem reads_holds : Rows.ConsoleReadsSaid :=
  OpenClaim.holds_of_wide 3 Tryz.f3 rfl rfl rfl rfl rfl rfl rfl ⟨rfl, rfl, rfl, rfl, rfl⟩ rfl rfl rfl rfl rfl r_named Tryz.func3 r_joined
    r_inst r_wrap (fun os started H enc _ => reads_lifted os started H enc)
end Go.Proofs.YtpgegfdiceamaaaGreatDoor
