/- The table holds. -/
import Derived.Test.YtpgegfdiceamaaaGreatDoorKa
import Derived.KernelRfl
namespace Go.Proofs.YtpgegfdiceamaaaGreatDoor
open Go
theorem tab0h : fun0s.map (rowOf Tryz.prog) = tab0s := by kernel_rfl
theorem goe0h : fun0s.any Func.goes = false := by kernel_rfl
theorem tab1h : fun1s.map (rowOf Tryz.prog) = tab1s := by kernel_rfl
theorem goe1h : fun1s.any Func.goes = false := by kernel_rfl
theorem tab2h : fun2s.map (rowOf Tryz.prog) = tab2s := by kernel_rfl
theorem goe2h : fun2s.any Func.goes = false := by kernel_rfl
theorem tab3h : fun3s.map (rowOf Tryz.prog) = tab3s := by kernel_rfl
theorem goe3h : fun3s.any Func.goes = false := by kernel_rfl
end Go.Proofs.YtpgegfdiceamaaaGreatDoor
