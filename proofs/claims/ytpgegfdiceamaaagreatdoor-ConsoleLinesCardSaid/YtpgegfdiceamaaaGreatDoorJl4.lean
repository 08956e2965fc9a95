/- Closed facts of a row. -/
import Derived.Test.YtpgegfdiceamaaaGreatDoorRows
import Derived.JoinedOf
namespace Go.Proofs.YtpgegfdiceamaaaGreatDoor
open Go
theorem l_j0 : (Rows.consoleLinesRow.wf (OpenSpec.ofChange Rows.consoleLinesSpec)) = true := by kernel_rfl
theorem l_j3 : (Tryz.f4.params.all (Tryz.prog.readableRec ·)) = true := by kernel_rfl
theorem l_j4 : (namedTie Tryz.prog Rows.consoleLinesRow.named Rows.consoleLinesSpec.vars) = true := by kernel_rfl
theorem l_j5 : ((Rows.consoleLinesRow.stops == [])) = true := by kernel_rfl
theorem l_j6 : ((Tryz.prog.stops == [])) = true := by kernel_rfl
theorem l_j7 : ((Rows.consoleLinesRow.knobs == [])) = true := by kernel_rfl
theorem l_j8 : ((Tryz.prog.stopKnobs == [])) = true := by kernel_rfl
theorem l_j13 : ((Rows.consoleLinesRow.maps == (Tryz.f4.params.toList ++ Rows.consoleLinesSpec.plain.varTypes Tryz.prog).any (Tryz.prog.mapsRec ·))) = true := by kernel_rfl
theorem l_j14 : ((Rows.consoleLinesRow.ifaces == (Tryz.f4.params.toList ++ Rows.consoleLinesSpec.plain.varTypes Tryz.prog).any (Tryz.prog.ifacesRec ·))) = true := by kernel_rfl
theorem l_j15 : ((Rows.consoleLinesRow.mapsOut == Tryz.prog.mapsAmong Tryz.f4.resultTypes.toList)) = true := by kernel_rfl
theorem l_j16 : ((Rows.consoleLinesRow.loops == (Tryz.f4.params.toList ++ Rows.consoleLinesSpec.plain.varTypes Tryz.prog).any (Tryz.prog.loopsFrom ·))) = true := by kernel_rfl
theorem l_j17 : ((Rows.consoleLinesRow.wideKeys == (Tryz.f4.params.toList ++ Rows.consoleLinesSpec.plain.varTypes Tryz.prog ++ Tryz.f4.resultTypes.toList).any (Tryz.prog.wideKeysFrom ·))) = true := by kernel_rfl
theorem l_j18 : (Rows.consoleLinesSpec.vars.all (Tryz.prog.varReadable ·)) = true := by kernel_rfl
theorem l_j19 : (Tryz.f4.resultTypes.all (fun t => Tryz.prog.readableRec t && decide (t < Tryz.prog.types.size))) = true := by kernel_rfl
theorem l_j20 : ((Rows.consoleLinesRow.ifacesOut == Tryz.f4.resultTypes.toList.any (Tryz.prog.ifacesRec ·))) = true := by kernel_rfl
theorem l_j21 : ((Rows.consoleLinesRow.loopsOut == Tryz.f4.resultTypes.toList.any (Tryz.prog.loopsFrom ·))) = true := by kernel_rfl
theorem l_j23 : (Rows.consoleLinesRow.shortTexts.isNone) = true := by kernel_rfl
theorem l_j24 : (Tryz.prog.stopsHeard) = true := by kernel_rfl
theorem l_j25 : (Tryz.prog.mayEnter) = true := by kernel_rfl
theorem l_j26 : ((Rows.consoleLinesRow.lifted == Tryz.prog.liftsFinal)) = true := by kernel_rfl
theorem l_j27 : ((Tryz.prog.make == some Rows.consoleLinesRow.make)) = true := by kernel_rfl
theorem l_j28 : ((Rows.consoleLinesRow.kinds == (if Rows.consoleLinesRow.domain.isEmpty then [] else Tryz.f4.params.toList.map fun t => match Tryz.prog.underlying t with | some (.int k) => some k | _ => none))) = true := by kernel_rfl
theorem l_j29 : ((Rows.consoleLinesRow.pinned == Rows.consoleLinesRow.pinnedBy)) = true := by kernel_rfl
theorem l_j30 : ((Rows.consoleLinesRow.veiled == (Tryz.f4.params.toList ++ Rows.consoleLinesSpec.plain.varTypes Tryz.prog ++ Tryz.f4.resultTypes.toList).any (Tryz.prog.veiledRec ·))) = true := by kernel_rfl
theorem l_j31 : (Rows.consoleLinesRow.veiledFits Tryz.prog Tryz.f4.params.toList (Tryz.f4.params.toList ++ Rows.consoleLinesSpec.plain.varTypes Tryz.prog ++ Tryz.f4.resultTypes.toList)) = true := by kernel_rfl
end Go.Proofs.YtpgegfdiceamaaaGreatDoor
