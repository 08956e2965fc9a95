/- The row of ConsoleBytes. -/
import Derived.Test.YtpgegfdiceamaaaGreatDoorXg
import Derived.Test.YtpgegfdiceamaaaGreatDoorJx
import Derived.Test.YtpgegfdiceamaaaGreatDoorJc
import Derived.Test.YtpgegfdiceamaaaGreatDoorJd
import Derived.Test.YtpgegfdiceamaaaGreatDoorKzb
import Derived.Test.YtpgegfdiceamaaaGreatDoorJb4
import Derived.Test.YtpgegfdiceamaaaGreatDoorJb5
namespace Go.Proofs.YtpgegfdiceamaaaGreatDoor
open Go
set_option maxRecDepth 100000 in
theorem b_joined : joinedFacts Tryz.prog 6 Tryz.f6 Rows.consoleBytesSpec Rows.consoleBytesRow = true :=
  joined_of (P := Tryz.prog) (f := 6) (fn := Tryz.f6) (s := Rows.consoleBytesSpec) (c := Rows.consoleBytesRow) b_j0 laid_out maps_rowed b_j3 b_j4 b_j5 b_j6 b_j7 b_j8 b_j9 b_j10 b_j11 b_j12 b_j13 b_j14 b_j15 b_j16 b_j17 b_j18 b_j19 b_j20 b_j21 b_j22 b_j23 b_j24 b_j25 b_j26 b_j27 b_j28 b_j29 b_j30 b_j31

set_option maxRecDepth 100000 in
theorem bytes_holds : Rows.ConsoleBytesSaid :=
  OpenClaim.holds_of_wide 6 Tryz.f6 rfl rfl rfl rfl rfl rfl rfl ⟨rfl, rfl, rfl, rfl, rfl⟩ rfl rfl rfl rfl rfl b_named Tryz.func6 b_joined
    b_inst b_wrap (fun os started H enc _ => bytes_lifted os started H enc)
end Go.Proofs.YtpgegfdiceamaaaGreatDoor
