/- Closed facts of a row. -/
import Derived.Test.YtpgegfdiceamaaaGreatDoorRows
import Derived.JoinedOf
namespace Go.Proofs.YtpgegfdiceamaaaGreatDoor
open Go
theorem k_named : Tryz.prog.funcNamed Rows.consoleBackRow.func = some 5 := by kernel_rfl
theorem k_inst : Tryz.f5.isInstance Tryz.prog Rows.consoleBackRow.origin Rows.consoleBackRow.targs := of_decide_eq_true (by kernel_rfl)
theorem k_wrap : Tryz.f5.isWrapper Tryz.prog Rows.consoleBackRow.wrapper Rows.consoleBackRow.mainSum := by
  unfold Func.isWrapper
  first
    | (rw [if_pos (by decide +kernel)]; kernel_rfl)
    | (rw [if_neg (by decide +kernel)]; exact ⟨rfl, rfl⟩)
end Go.Proofs.YtpgegfdiceamaaaGreatDoor
