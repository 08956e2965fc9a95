/- Closed facts of a row. -/
import Derived.Test.YtpgegfdiceamaaaGreatDoorRows
import Derived.JoinedOf
namespace Go.Proofs.YtpgegfdiceamaaaGreatDoor
open Go
theorem k_j0 : (Rows.consoleBackRow.wf (OpenSpec.ofChange Rows.consoleBackSpec)) = true := by kernel_rfl
theorem k_j3 : (Tryz.f5.params.all (Tryz.prog.readableRec ·)) = true := by kernel_rfl
theorem k_j4 : (namedTie Tryz.prog Rows.consoleBackRow.named Rows.consoleBackSpec.vars) = true := by kernel_rfl
theorem k_j5 : ((Rows.consoleBackRow.stops == [])) = true := by kernel_rfl
theorem k_j6 : ((Tryz.prog.stops == [])) = true := by kernel_rfl
theorem k_j7 : ((Rows.consoleBackRow.knobs == [])) = true := by kernel_rfl
theorem k_j8 : ((Tryz.prog.stopKnobs == [])) = true := by kernel_rfl
theorem k_j13 : ((Rows.consoleBackRow.maps == (Tryz.f5.params.toList ++ Rows.consoleBackSpec.plain.varTypes Tryz.prog).any (Tryz.prog.mapsRec ·))) = true := by kernel_rfl
theorem k_j14 : ((Rows.consoleBackRow.ifaces == (Tryz.f5.params.toList ++ Rows.consoleBackSpec.plain.varTypes Tryz.prog).any (Tryz.prog.ifacesRec ·))) = true := by kernel_rfl
theorem k_j15 : ((Rows.consoleBackRow.mapsOut == Tryz.prog.mapsAmong Tryz.f5.resultTypes.toList)) = true := by kernel_rfl
theorem k_j16 : ((Rows.consoleBackRow.loops == (Tryz.f5.params.toList ++ Rows.consoleBackSpec.plain.varTypes Tryz.prog).any (Tryz.prog.loopsFrom ·))) = true := by kernel_rfl
theorem k_j17 : ((Rows.consoleBackRow.wideKeys == (Tryz.f5.params.toList ++ Rows.consoleBackSpec.plain.varTypes Tryz.prog ++ Tryz.f5.resultTypes.toList).any (Tryz.prog.wideKeysFrom ·))) = true := by kernel_rfl
theorem k_j18 : (Rows.consoleBackSpec.vars.all (Tryz.prog.varReadable ·)) = true := by kernel_rfl
theorem k_j19 : (Tryz.f5.resultTypes.all (fun t => Tryz.prog.readableRec t && decide (t < Tryz.prog.types.size))) = true := by kernel_rfl
theorem k_j20 : ((Rows.consoleBackRow.ifacesOut == Tryz.f5.resultTypes.toList.any (Tryz.prog.ifacesRec ·))) = true := by kernel_rfl
theorem k_j21 : ((Rows.consoleBackRow.loopsOut == Tryz.f5.resultTypes.toList.any (Tryz.prog.loopsFrom ·))) = true := by kernel_rfl
theorem k_j23 : (Rows.consoleBackRow.shortTexts.isNone) = true := by kernel_rfl
theorem k_j24 : (Tryz.prog.stopsHeard) = true := by kernel_rfl
theorem k_j25 : (Tryz.prog.mayEnter) = true := by kernel_rfl
theorem k_j26 : ((Rows.consoleBackRow.lifted == Tryz.prog.liftsFinal)) = true := by kernel_rfl
theorem k_j27 : ((Tryz.prog.make == some Rows.consoleBackRow.make)) = true := by kernel_rfl
theorem k_j28 : ((Rows.consoleBackRow.kinds == (if Rows.consoleBackRow.domain.isEmpty then [] else Tryz.f5.params.toList.map fun t => match Tryz.prog.underlying t with | some (.int k) => some k | _ => none))) = true := by kernel_rfl
theorem k_j29 : ((Rows.consoleBackRow.pinned == Rows.consoleBackRow.pinnedBy)) = true := by kernel_rfl
theorem k_j30 : ((Rows.consoleBackRow.veiled == (Tryz.f5.params.toList ++ Rows.consoleBackSpec.plain.varTypes Tryz.prog ++ Tryz.f5.resultTypes.toList).any (Tryz.prog.veiledRec ·))) = true := by kernel_rfl
theorem k_j31 : (Rows.consoleBackRow.veiledFits Tryz.prog Tryz.f5.params.toList (Tryz.f5.params.toList ++ Rows.consoleBackSpec.plain.varTypes Tryz.prog ++ Tryz.f5.resultTypes.toList)) = true := by kernel_rfl
end Go.Proofs.YtpgegfdiceamaaaGreatDoor
