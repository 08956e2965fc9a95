/- The table, whole. -/
import Derived.Test.YtpgegfdiceamaaaGreatDoorKb
import Derived.Test.YtpgegfdiceamaaaGreatDoorKc
namespace Go.Proofs.YtpgegfdiceamaaaGreatDoor
open Go
theorem tab_holds : Tryz.prog.funcs.toList.map (rowOf Tryz.prog) = tab := by
  rw [funs_eq]
  simp only [List.map_append, tab0h, tab1h, tab2h, tab3h, tab4h, tab5h, tab6h, tab7h]
  rfl
theorem no_goes : Tryz.prog.funcs.toList.any Func.goes = false := by
  rw [funs_eq]
  simp only [List.any_append, goe0h, goe1h, goe2h, goe3h, goe4h, goe5h, goe6h, goe7h, Bool.or_false]
end Go.Proofs.YtpgegfdiceamaaaGreatDoor
