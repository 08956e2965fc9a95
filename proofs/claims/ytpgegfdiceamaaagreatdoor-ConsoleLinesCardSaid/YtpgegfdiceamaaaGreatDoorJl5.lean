/- Closed facts of a row. -/
import Derived.Test.YtpgegfdiceamaaaGreatDoorRows
import Derived.JoinedOf
namespace Go.Proofs.YtpgegfdiceamaaaGreatDoor
open Go
theorem l_named : Tryz.prog.funcNamed Rows.consoleLinesRow.func = some 4 := by kernel_rfl
theorem l_inst : Tryz.f4.isInstance Tryz.prog Rows.consoleLinesRow.origin Rows.consoleLinesRow.targs := of_decide_eq_true (by kernel_rfl)
theorem l_wrap : Tryz.f4.isWrapper Tryz.prog Rows.consoleLinesRow.wrapper Rows.consoleLinesRow.mainSum := by
  unfold Func.isWrapper
  first
    | (rw [if_pos (by decide +kernel)]; kernel_rfl)
    | (rw [if_neg (by decide +kernel)]; exact ⟨rfl, rfl⟩)
end Go.Proofs.YtpgegfdiceamaaaGreatDoor
