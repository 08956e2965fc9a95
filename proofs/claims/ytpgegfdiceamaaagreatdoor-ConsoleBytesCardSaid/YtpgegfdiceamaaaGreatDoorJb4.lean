/- Closed facts of a row. -/
import Derived.Test.YtpgegfdiceamaaaGreatDoorRows
import Derived.JoinedOf
namespace Go.Proofs.YtpgegfdiceamaaaGreatDoor
open Go
theorem b_j0 : (Rows.consoleBytesRow.wf (OpenSpec.ofChange Rows.consoleBytesSpec)) = true := by kernel_rfl
theorem b_j3 : (Tryz.f6.params.all (Tryz.prog.readableRec ·)) = true := by kernel_rfl
theorem b_j4 : (namedTie Tryz.prog Rows.consoleBytesRow.named Rows.consoleBytesSpec.vars) = true := by kernel_rfl
theorem b_j5 : ((Rows.consoleBytesRow.stops == [])) = true := by kernel_rfl
theorem b_j6 : ((Tryz.prog.stops == [])) = true := by kernel_rfl
theorem b_j7 : ((Rows.consoleBytesRow.knobs == [])) = true := by kernel_rfl
theorem b_j8 : ((Tryz.prog.stopKnobs == [])) = true := by kernel_rfl
theorem b_j13 : ((Rows.consoleBytesRow.maps == (Tryz.f6.params.toList ++ Rows.consoleBytesSpec.plain.varTypes Tryz.prog).any (Tryz.prog.mapsRec ·))) = true := by kernel_rfl
theorem b_j14 : ((Rows.consoleBytesRow.ifaces == (Tryz.f6.params.toList ++ Rows.consoleBytesSpec.plain.varTypes Tryz.prog).any (Tryz.prog.ifacesRec ·))) = true := by kernel_rfl
theorem b_j15 : ((Rows.consoleBytesRow.mapsOut == Tryz.prog.mapsAmong Tryz.f6.resultTypes.toList)) = true := by kernel_rfl
theorem b_j16 : ((Rows.consoleBytesRow.loops == (Tryz.f6.params.toList ++ Rows.consoleBytesSpec.plain.varTypes Tryz.prog).any (Tryz.prog.loopsFrom ·))) = true := by kernel_rfl
theorem b_j17 : ((Rows.consoleBytesRow.wideKeys == (Tryz.f6.params.toList ++ Rows.consoleBytesSpec.plain.varTypes Tryz.prog ++ Tryz.f6.resultTypes.toList).any (Tryz.prog.wideKeysFrom ·))) = true := by kernel_rfl
theorem b_j18 : (Rows.consoleBytesSpec.vars.all (Tryz.prog.varReadable ·)) = true := by kernel_rfl
theorem b_j19 : (Tryz.f6.resultTypes.all (fun t => Tryz.prog.readableRec t && decide (t < Tryz.prog.types.size))) = true := by kernel_rfl
theorem b_j20 : ((Rows.consoleBytesRow.ifacesOut == Tryz.f6.resultTypes.toList.any (Tryz.prog.ifacesRec ·))) = true := by kernel_rfl
theorem b_j21 : ((Rows.consoleBytesRow.loopsOut == Tryz.f6.resultTypes.toList.any (Tryz.prog.loopsFrom ·))) = true := by kernel_rfl
theorem b_j23 : (Rows.consoleBytesRow.shortTexts.isNone) = true := by kernel_rfl
theorem b_j24 : (Tryz.prog.stopsHeard) = true := by kernel_rfl
theorem b_j25 : (Tryz.prog.mayEnter) = true := by kernel_rfl
theorem b_j26 : ((Rows.consoleBytesRow.lifted == Tryz.prog.liftsFinal)) = true := by kernel_rfl
theorem b_j27 : ((Tryz.prog.make == some Rows.consoleBytesRow.make)) = true := by kernel_rfl
theorem b_j28 : ((Rows.consoleBytesRow.kinds == (if Rows.consoleBytesRow.domain.isEmpty then [] else Tryz.f6.params.toList.map fun t => match Tryz.prog.underlying t with | some (.int k) => some k | _ => none))) = true := by kernel_rfl
theorem b_j29 : ((Rows.consoleBytesRow.pinned == Rows.consoleBytesRow.pinnedBy)) = true := by kernel_rfl
theorem b_j30 : ((Rows.consoleBytesRow.veiled == (Tryz.f6.params.toList ++ Rows.consoleBytesSpec.plain.varTypes Tryz.prog ++ Tryz.f6.resultTypes.toList).any (Tryz.prog.veiledRec ·))) = true := by kernel_rfl
theorem b_j31 : (Rows.consoleBytesRow.veiledFits Tryz.prog Tryz.f6.params.toList (Tryz.f6.params.toList ++ Rows.consoleBytesSpec.plain.varTypes Tryz.prog ++ Tryz.f6.resultTypes.toList)) = true := by kernel_rfl
end Go.Proofs.YtpgegfdiceamaaaGreatDoor
