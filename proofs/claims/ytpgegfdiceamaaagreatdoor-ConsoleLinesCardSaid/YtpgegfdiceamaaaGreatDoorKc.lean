/- The table holds. -/
import Derived.Test.YtpgegfdiceamaaaGreatDoorKa
import Derived.KernelRfl
namespace Go.Proofs.YtpgegfdiceamaaaGreatDoor
open Go
theorem tab4h : fun4s.map (rowOf Tryz.prog) = tab4s := by kernel_rfl
theorem goe4h : fun4s.any Func.goes = false := by kernel_rfl
theorem tab5h : fun5s.map (rowOf Tryz.prog) = tab5s := by kernel_rfl
theorem goe5h : fun5s.any Func.goes = false := by kernel_rfl
theorem tab6h : fun6s.map (rowOf Tryz.prog) = tab6s := by kernel_rfl
theorem goe6h : fun6s.any Func.goes = false := by kernel_rfl
theorem tab7h : fun7s.map (rowOf Tryz.prog) = tab7s := by kernel_rfl
theorem goe7h : fun7s.any Func.goes = false := by kernel_rfl
end Go.Proofs.YtpgegfdiceamaaaGreatDoor
