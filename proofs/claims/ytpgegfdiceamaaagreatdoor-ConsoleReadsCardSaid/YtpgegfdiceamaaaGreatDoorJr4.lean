/- Closed facts of a row. -/
import Derived.Test.YtpgegfdiceamaaaGreatDoorRows
import Derived.JoinedOf
namespace Go.Proofs.YtpgegfdiceamaaaGreatDoor
open Go
theorem r_j0 : (Rows.consoleReadsRow.wf (OpenSpec.ofChange Rows.consoleReadsSpec)) = true := by kernel_rfl
theorem r_j3 : (Tryz.f3.params.all (Tryz.prog.readableRec ·)) = true := by kernel_rfl
theorem r_j4 : (namedTie Tryz.prog Rows.consoleReadsRow.named Rows.consoleReadsSpec.vars) = true := by kernel_rfl
theorem r_j5 : ((Rows.consoleReadsRow.stops == [])) = true := by kernel_rfl
theorem r_j6 : ((Tryz.prog.stops == [])) = true := by kernel_rfl
theorem r_j7 : ((Rows.consoleReadsRow.knobs == [])) = true := by kernel_rfl
theorem r_j8 : ((Tryz.prog.stopKnobs == [])) = true := by kernel_rfl
theorem r_j13 : ((Rows.consoleReadsRow.maps == (Tryz.f3.params.toList ++ Rows.consoleReadsSpec.plain.varTypes Tryz.prog).any (Tryz.prog.mapsRec ·))) = true := by kernel_rfl
theorem r_j14 : ((Rows.consoleReadsRow.ifaces == (Tryz.f3.params.toList ++ Rows.consoleReadsSpec.plain.varTypes Tryz.prog).any (Tryz.prog.ifacesRec ·))) = true := by kernel_rfl
theorem r_j15 : ((Rows.consoleReadsRow.mapsOut == Tryz.prog.mapsAmong Tryz.f3.resultTypes.toList)) = true := by kernel_rfl
theorem r_j16 : ((Rows.consoleReadsRow.loops == (Tryz.f3.params.toList ++ Rows.consoleReadsSpec.plain.varTypes Tryz.prog).any (Tryz.prog.loopsFrom ·))) = true := by kernel_rfl
theorem r_j17 : ((Rows.consoleReadsRow.wideKeys == (Tryz.f3.params.toList ++ Rows.consoleReadsSpec.plain.varTypes Tryz.prog ++ Tryz.f3.resultTypes.toList).any (Tryz.prog.wideKeysFrom ·))) = true := by kernel_rfl
theorem r_j18 : (Rows.consoleReadsSpec.vars.all (Tryz.prog.varReadable ·)) = true := by kernel_rfl
theorem r_j19 : (Tryz.f3.resultTypes.all (fun t => Tryz.prog.readableRec t && decide (t < Tryz.prog.types.size))) = true := by kernel_rfl
theorem r_j20 : ((Rows.consoleReadsRow.ifacesOut == Tryz.f3.resultTypes.toList.any (Tryz.prog.ifacesRec ·))) = true := by kernel_rfl
theorem r_j21 : ((Rows.consoleReadsRow.loopsOut == Tryz.f3.resultTypes.toList.any (Tryz.prog.loopsFrom ·))) = true := by kernel_rfl
theorem r_j23 : (Rows.consoleReadsRow.shortTexts.isNone) = true := by kernel_rfl
theorem r_j24 : (Tryz.prog.stopsHeard) = true := by kernel_rfl
theorem r_j25 : (Tryz.prog.mayEnter) = true := by kernel_rfl
theorem r_j26 : ((Rows.consoleReadsRow.lifted == Tryz.prog.liftsFinal)) = true := by kernel_rfl
theorem r_j27 : ((Tryz.prog.make == some Rows.consoleReadsRow.make)) = true := by kernel_rfl
theorem r_j28 : ((Rows.consoleReadsRow.kinds == (if Rows.consoleReadsRow.domain.isEmpty then [] else Tryz.f3.params.toList.map fun t => match Tryz.prog.underlying t with | some (.int k) => some k | _ => none))) = true := by kernel_rfl
theorem r_j29 : ((Rows.consoleReadsRow.pinned == Rows.consoleReadsRow.pinnedBy)) = true := by kernel_rfl
theorem r_j30 : ((Rows.consoleReadsRow.veiled == (Tryz.f3.params.toList ++ Rows.consoleReadsSpec.plain.varTypes Tryz.prog ++ Tryz.f3.resultTypes.toList).any (Tryz.prog.veiledRec ·))) = true := by kernel_rfl
theorem r_j31 : (Rows.consoleReadsRow.veiledFits Tryz.prog Tryz.f3.params.toList (Tryz.f3.params.toList ++ Rows.consoleReadsSpec.plain.varTypes Tryz.prog ++ Tryz.f3.resultTypes.toList)) = true := by kernel_rfl
end Go.Proofs.YtpgegfdiceamaaaGreatDoor
